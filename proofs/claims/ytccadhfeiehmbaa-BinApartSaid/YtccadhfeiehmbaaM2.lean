/- What the statements of this chapter rest on, part 2. Conditions: none. -/
import Derived.Test.YtccadhfeiehmbaaRows
import Derived.Laws.BytesString
import Derived.Laws.Strings
import Derived.WalkKit
import Derived.ProofKit
import Derived.OpenShut
import Derived.Laws.IdiomArrays
import Derived.DataShut
import Derived.Carry
import Derived.ChangeSlices
import Derived.Deep.Matrix
import Derived.Deep.MidRow
import Derived.Laws.MakeOwn
import Derived.OwnWalk
import Derived.Laws.Bits64b
import Derived.RangeFuncNested
import Derived.Lib.SliceRun
import Derived.Test.YtccadhfeiehmbaaM1
/- As Flow, where the last steps may write into what is the call's own: those wait for all quiet steps. No program in sight. -/
namespace Go
set_option linter.unusedVariables false
set_option linter.unusedSimpArgs false
open Go.RowKit
section
variable {P : Program} {ops : Array Oper} {md : Region.Mode} {esc : List Nat}
/-- Whatever order comes, in whatever world has come meanwhile; behind a step of 'esc' in just the world that it leaves. -/
def wpFlowX (P : Program) (md : Region.Mode) (ops : Array Oper) (esc : List Nat) (Q : Exit → Act → World → Prop) : Nat → Array Bool → Act → World → Prop
  | 0, listed, a, w => Region.ready md ops listed = [] ∧ ∀ w', Grew w w' → Q .normal a w'
  | f + 1, listed, a, w =>
    (Region.ready md ops listed = [] → ∀ w', Grew w w' → Q .normal a w') ∧
    ∀ i ∈ Region.ready md ops listed, ∀ w', Grew w w' → wpOp P ops Q i (fun a' w'' => if esc.contains i then wpAny P md ops Q f (listed.setIfInBounds i true) a' w'' else Grew w' w'' ∧ wpFlowX P md ops esc Q f (listed.setIfInBounds i true) a' w'') a w'
theorem wpFlowX_mono {Q : Exit → Act → World → Prop} : ∀ (f : Nat) (listed : Array Bool) (a : Act) (w w' : World), Grew w w' → wpFlowX P md ops esc Q f listed a w → wpFlowX P md ops esc Q f listed a w'
  | 0, _, _, _, _, hg, h => ⟨h.1, fun w'' hg' => h.2 w'' (hg.trans hg')⟩
  | f + 1, listed, a, w, w', hg, h => ⟨fun h0 w'' hg' => h.1 h0 w'' (hg.trans hg'), fun i hi w'' hg' => h.2 i hi w'' (hg.trans hg')⟩
theorem wpAny_of_flowX {Q : Exit → Act → World → Prop} : ∀ (f : Nat) (listed : Array Bool) (a : Act) (w : World), wpFlowX P md ops esc Q f listed a w → wpAny P md ops Q f listed a w
  | 0, _, _, w, h => ⟨h.1, h.2 w (Grew.refl _)⟩
  | f + 1, listed, a, w, h => ⟨fun h0 => h.1 h0 w (Grew.refl _), fun i hi => wpOp_mono (fun a' w' h' => by
      split at h'
      · exact h'
      · exact wpAny_of_flowX f _ a' w' h'.2) (h.2 i hi w (Grew.refl _))⟩
/-- A quiet step goes first. -/
theorem wpFlowX_first {i : Nat} {oi : Oper} {v : Value} {Q : Exit → Act → World → Prop} (hQ : ∀ c a w d v, Q (.panic c) (Act.put a d v) w → Q (.panic c) a w)
    (hi : ops[i]? = some oi) (hsel : ∀ (j : Nat) (o : Oper) cs b, ops[j]? = some o → o.op ≠ .select cs b) (hne : esc.contains i = false) (hwait : ∀ t ∈ esc, Region.waitsT md ops ops.size t i = true) :
    ∀ (f : Nat) (listed : Array Bool) (a : Act) (w : World), ClosedL md ops listed →
      (∀ j oj, ops[j]? = some oj → j ≠ i → listed.getD j true = false → (∀ e ∈ oj.after, Region.binds md e = true → e.on ≠ i) → oi.apart ops oj = true) →
      i ∈ Region.ready md ops listed → GivesIn P ops (fun w' => Grew w w') oi v a →
      wpFlowX P md ops esc Q f (listed.setIfInBounds i true) (a.put oi.dst v) w → wpFlowX P md ops esc Q (f + 1) listed a w := by
  have self : ∀ (f : Nat) (listed : Array Bool) (a : Act) (w : World), GivesIn P ops (fun w' => Grew w w') oi v a → wpFlowX P md ops esc Q f (listed.setIfInBounds i true) (a.put oi.dst v) w →
      ∀ w', Grew w w' → wpOp P ops Q i (fun a' w'' => if esc.contains i then wpAny P md ops Q f (listed.setIfInBounds i true) a' w'' else Grew w' w'' ∧ wpFlowX P md ops esc Q f (listed.setIfInBounds i true) a' w'') a w' := fun f listed a w hy Hh w' hg => by
    simp only [hne, Bool.false_eq_true, if_false]
    exact wpOp_of_gives hi hy hg fun w'' hg' => ⟨hg', wpFlowX_mono f _ _ _ _ (hg.trans hg') Hh⟩
  intro f
  induction f with
  | zero =>
    intro listed a w _ _ hr hy Hh
    refine ⟨fun h => (by rw [h] at hr; cases hr), fun j hj => ?_⟩
    by_cases hji : j = i
    · subst hji; exact self 0 listed a w hy Hh
    · have := ready_mono hj hji
      rw [Hh.1] at this
      cases this
  | succ f ih =>
    intro listed a w inv hfree hr hy Hh
    refine ⟨fun h => (by rw [h] at hr; cases hr), fun j hj => ?_⟩
    by_cases hji : j = i
    · subst hji; exact self (f + 1) listed a w hy Hh
    · have h1 := Hh.2 j (ready_mono hj hji)
      obtain ⟨hjun, oj, hoj, hall⟩ := mem_ready.1 hj
      have hun := (mem_ready.1 hr).1
      have hesc : esc.contains j = false := by
        cases he : esc.contains j with
        | false => rfl
        | true =>
          have h2 := inv.ready_waits hj (hwait j (by simpa using he))
          rw [getD_both hun] at h2
          cases h2
      have hnot : ∀ e ∈ oj.after, Region.binds md e = true → e.on ≠ i := fun e he hb heq => by
        have h1 := hall e he hb
        rw [heq, getD_both hun] at h1
        cases h1
      have hfree' : ∀ k ok, ops[k]? = some ok → k ≠ i → (listed.setIfInBounds j true).getD k true = false →
          (∀ e ∈ ok.after, Region.binds md e = true → e.on ≠ i) → oi.apart ops ok = true := fun k ok hk hki hun hno => by
        refine hfree k ok hk hki ?_ hno
        by_cases hjk : j = k
        · subst hjk; exact hjun
        · rw [getD_set_ne true hjk] at hun; exact hun
      have hap := hfree j oj hoj hji hjun hnot
      intro w' hg
      simp only [hesc, Bool.false_eq_true, if_false] at h1 ⊢
      have h2 := wpOp_putG hoj hap (fun cs b => hsel i oi cs b hi) (fun cs b => hsel j oj cs b hoj) hQ hy (h1 w' hg)
      refine wpOp_mono (fun a' w'' h3 => ⟨h3.2.1, ih (listed.setIfInBounds j true) a' w'' (inv.set hj) hfree' (ready_mono hr (Ne.symm hji)) (h3.1.sub fun x hx => hg.trans (h3.2.1.trans hx)) ?_⟩) h2
      rw [Array.setIfInBounds_comm _ _ hji]
      exact h3.2.2
def Region.closedB (md : Region.Mode) (ops : Array Oper) (listed : Array Bool) : Bool :=
  (List.range ops.size).all fun j => !listed.getD j false || match ops[j]? with | some o => o.after.all fun e => !Region.binds md e || listed.getD e.on false | none => true
theorem closed_of_B {listed : Array Bool} (h : Region.closedB md ops listed = true) : ClosedL md ops listed := by
  intro j oj hoj hl e he hb
  have hj : j < ops.size := (Array.getElem?_eq_some_iff.1 hoj).1
  have h1 := List.all_eq_true.1 h j (by simpa using hj)
  simp only [hl, hoj, Bool.not_true, Bool.false_or] at h1
  have h2 := (Array.all_eq_true'.1 h1) e he
  simpa [hb] using h2
def Region.flowLexX (md : Region.Mode) (ops : Array Oper) (esc : List Nat) : List Nat → Array Bool → Bool
  | [], _ => true
  | k :: ks, listed => (Region.ready md ops listed).contains k && Region.free md ops listed k && !esc.contains k && (esc.all fun t => Region.waitsT md ops ops.size t k) && Region.flowLexX md ops esc ks (listed.setIfInBounds k true)
theorem wpFlowX_lex {Q : Exit → Act → World → Prop} {A : Act} (hQ : ∀ c a w d v, Q (.panic c) (Act.put a d v) w → Q (.panic c) a w) (hsel : Region.noSelect ops = true) {w : World} (f : Nat) :
    ∀ (qs : List Nat) (listed : Array Bool) (a : Act), ClosedL md ops listed → wpFlowX P md ops esc Q f (Region.listAll listed qs) A w → Region.flowLexX md ops esc qs listed = true → givesAll P ops (fun w' => Grew w w') A qs a → wpFlowX P md ops esc Q (qs.length + f) listed a w
  | [], listed, a, _, hE, _, h => by
    simp only [givesAll] at h
    subst h
    rw [List.length_nil, Nat.zero_add]
    exact hE
  | k :: qs, listed, a, inv, hE, hB, h => by
    simp only [Region.flowLexX, Bool.and_eq_true] at hB
    obtain ⟨⟨⟨⟨hr, hf⟩, hne⟩, hw⟩, hB'⟩ := hB
    obtain ⟨o, d, ho', hd, hy, hk⟩ := h
    have hr' : k ∈ Region.ready md ops listed := by simpa using hr
    rw [List.length_cons, show qs.length + 1 + f = qs.length + f + 1 by omega]
    refine wpFlowX_first hQ ho' (Region.noSelect_spec hsel) (by simpa using hne) (fun t ht => List.all_eq_true.1 hw t ht) _ listed a w inv (Region.free_spec ho' hf) hr' hy ?_
    rw [hd]
    exact wpFlowX_lex hQ hsel f qs _ _ (inv.set hr') hE hB' hk
end
section
variable {P : Program} {l : List Oper} {Q : Exit → Act → World → Prop} {esc : List Nat}
/-- The call in the quiet part of a region's beginning, behind a call before. -/
theorem Calls.pure_of_g4 {f : FuncId} {args : Array Value} {X : World} {a b c n : Junk} {v : Value}
    (h : Calls P f args (X.grow ⟨a.objs ++ (b.objs ++ (c.objs ++ n.objs)), n.drawn⟩) fun e w' => e = .returned v ∧ Grew (X.grow ⟨a.objs ++ (b.objs ++ (c.objs ++ n.objs)), n.drawn⟩) w') :
    Calls P f args (X.grow ⟨a.objs ++ (b.objs ++ (c.objs ++ n.objs)), n.drawn⟩) fun e w'' => e = .returned v ∧ ∃ m : Junk, w'' = X.grow ⟨a.objs ++ (b.objs ++ (c.objs ++ m.objs)), m.drawn⟩ :=
  h.mono fun _ _ ⟨he, hm⟩ => ⟨he, by obtain ⟨m, rfl⟩ := hm; exact ⟨⟨n.objs ++ m.objs, m.drawn⟩, by simp [grow_grow, Array.append_assoc]⟩⟩
theorem wpFlowX_quiets (qs : List Nat) {n : Nat} {listed : Array Bool} {a : Act} {w : World} (hn : decide (qs.length ≤ n) = true)
    (hB : (Region.noSelect l.toArray && Region.flowLexX .any l.toArray esc qs listed && envOk qs l.length && Region.closedB .any l.toArray listed) = true) (hD : envDsts qs l.toArray a.tmps.size = true)
    (hQ : ∀ c a w d v, Q (.panic c) (Act.put a d v) w → Q (.panic c) a w) (V : Act)
    (hq : ∀ A, Hid (A = V) → ∀ δ', wpQuiet P l.toArray (fun w' => ∃ n, w' = (w.grow δ').grow n) (fun a' => a' = A) (pickOps l qs) a)
    (h : wpFlowX P .any l.toArray esc Q (n - qs.length) (Region.listAll listed qs) V w) : wpFlowX P .any l.toArray esc Q n listed a w := by
  simp only [Bool.and_eq_true] at hB
  obtain ⟨⟨⟨hsel, hlex⟩, hok⟩, hcl⟩ := hB
  obtain ⟨f, rfl⟩ : ∃ f, n = qs.length + f := ⟨n - qs.length, by have := of_decide_eq_true hn; omega⟩
  rw [Nat.add_sub_cancel_left] at h
  exact wpFlowX_lex hQ hsel f qs listed a (closed_of_B hcl) h hlex (givesAll_of_quiet (H := fun w' => Grew w w') ⟨w, Grew.refl _⟩ qs (pickOps l qs) a (map_pick l qs hok) hD (fun Y ⟨n, hY⟩ => by subst hY; exact hq V (rfl : V = V) n))
theorem wpOp_of_list {k : Nat} (hlt : k < l.length) {K : Act → World → Prop} {a : Act} {w : World} (h1 : wpList P l.toArray (Exit.then K Q) (pickOps l [k]) a w) : wpOp P l.toArray Q k K a w := by
  rw [pickOps_cons, pick1_eq l k _ hlt, pickOps_nil] at h1
  unfold wpOp
  simp only [List.getElem?_toArray, List.getElem?_eq_getElem hlt]
  unfold wpList at h1
  split at h1
  · rename_i hw
    rw [if_pos hw]
    rcases h1 with h1 | ⟨h1, a2, w2, h2⟩
    · exact .inl (by
        unfold Oper.wp at *
        generalize (execOp a.eval l[k]).run P w = r at *
        cases r with
        | ok n w'' =>
          cases n <;> simp only [Oper.upon] at h1 ⊢ <;> first
            | exact h1
            | exact Calls.mono h1 (fun e w'' he => by cases e <;> exact he)
        | halt x w'' => cases x <;> simp only [Oper.upon] at h1 ⊢ <;> exact h1)
    · exact .inr ⟨h1, a2, w2, h2⟩
  · rename_i hw
    rw [if_neg hw]
    exact h1
/-- The one step that is ready. -/
theorem wpFlowX_one {x : Nat} {listed : Array Bool} {a : Act} {w : World} (k : Nat) (hx : decide (0 < x) = true) (hr : Region.ready .any l.toArray listed = [k]) (hk : decide (k < l.length) = true) (he : esc.contains k = false)
    (h : ∀ δ, wpList P l.toArray (Exit.then (fun a' w'' => Grew (w.grow δ) w'' ∧ wpFlowX P .any l.toArray esc Q (x - 1) (listed.setIfInBounds k true) a' w'') Q) (pickOps l [k]) a (w.grow δ)) : wpFlowX P .any l.toArray esc Q x listed a w := by
  obtain ⟨f, rfl⟩ : ∃ f, x = f + 1 := ⟨x - 1, by have := of_decide_eq_true hx; omega⟩
  refine ⟨fun h0 => (by rw [hr] at h0; cases h0), fun i hi w' hg => ?_⟩
  rw [hr, List.mem_singleton] at hi
  subst hi
  obtain ⟨δ, rfl⟩ := hg
  simp only [he, Bool.false_eq_true, if_false]
  exact wpOp_of_list (of_decide_eq_true hk) (h δ)
/-- One of two steps that are ready, in some world behind. -/
def wpFlowXS (P : Program) (l : List Oper) (esc : List Nat) (Q : Exit → Act → World → Prop) (x : Nat) (listed : Array Bool) (k : Nat) (a : Act) (w : World) : Prop :=
  ∀ δ, wpList P l.toArray (Exit.then (fun a' w'' => Grew (w.grow δ) w'' ∧ wpFlowX P .any l.toArray esc Q x (listed.setIfInBounds k true) a' w'') Q) (pickOps l [k]) a (w.grow δ)
theorem wpFlowX_two {x : Nat} {listed : Array Bool} {a : Act} {w : World} (k m : Nat) (hx : decide (0 < x) = true) (hr : Region.ready .any l.toArray listed = [k, m]) (hk : decide (k < l.length ∧ m < l.length) = true) (he : (esc.contains k || esc.contains m) = false)
    (h1 : wpFlowXS P l esc Q (x - 1) listed k a w) (h2 : wpFlowXS P l esc Q (x - 1) listed m a w) : wpFlowX P .any l.toArray esc Q x listed a w := by
  obtain ⟨f, rfl⟩ : ∃ f, x = f + 1 := ⟨x - 1, by have := of_decide_eq_true hx; omega⟩
  have hk := of_decide_eq_true hk
  simp only [Bool.or_eq_false_iff] at he
  refine ⟨fun h0 => (by rw [hr] at h0; cases h0), fun i hi w' hg => ?_⟩
  rw [hr] at hi
  simp only [List.mem_cons, List.not_mem_nil, or_false] at hi
  obtain ⟨δ, rfl⟩ := hg
  rcases hi with rfl | rfl
  · simp only [he.1, Bool.false_eq_true, if_false]
    exact wpOp_of_list hk.1 (h1 δ)
  · simp only [he.2, Bool.false_eq_true, if_false]
    exact wpOp_of_list hk.2 (h2 δ)
/-- A step that writes into what is the call's own: behind it nothing comes meanwhile. -/
theorem wpFlowX_esc {x : Nat} {listed : Array Bool} {a : Act} {w : World} (k : Nat) (hx : decide (0 < x) = true) (hr : Region.ready .any l.toArray listed = [k]) (hk : decide (k < l.length) = true) (he : esc.contains k = true)
    (h : ∀ δ, wpList P l.toArray (Exit.then (fun a' w'' => wpAny P .any l.toArray Q (x - 1) (listed.setIfInBounds k true) a' w'') Q) (pickOps l [k]) a (w.grow δ)) : wpFlowX P .any l.toArray esc Q x listed a w := by
  obtain ⟨f, rfl⟩ : ∃ f, x = f + 1 := ⟨x - 1, by have := of_decide_eq_true hx; omega⟩
  refine ⟨fun h0 => (by rw [hr] at h0; cases h0), fun i hi w' hg => ?_⟩
  rw [hr, List.mem_singleton] at hi
  subst hi
  obtain ⟨δ, rfl⟩ := hg
  simp only [he, if_true]
  exact wpOp_of_list (of_decide_eq_true hk) (h δ)
theorem wpAny_one {x : Nat} {listed : Array Bool} {a : Act} {w : World} (k : Nat) (hx : decide (0 < x) = true) (hr : Region.ready .any l.toArray listed = [k]) (hk : decide (k < l.length) = true)
    (h : wpList P l.toArray (Exit.then (fun a' w'' => wpAny P .any l.toArray Q (x - 1) (listed.setIfInBounds k true) a' w'') Q) (pickOps l [k]) a w) : wpAny P .any l.toArray Q x listed a w := by
  obtain ⟨f, rfl⟩ : ∃ f, x = f + 1 := ⟨x - 1, by have := of_decide_eq_true hx; omega⟩
  refine ⟨fun h0 => (by rw [hr] at h0; cases h0), fun i hi => ?_⟩
  rw [hr, List.mem_singleton] at hi
  subst hi
  exact wpOp_of_list (of_decide_eq_true hk) h
theorem wpAny_end {x : Nat} {listed : Array Bool} {a : Act} {w : World} (hx : decide (x = 0) = true) (hr : (Region.ready .any l.toArray listed).isEmpty = true) (h : Q .normal a w) : wpAny P .any l.toArray Q x listed a w := by
  obtain rfl := of_decide_eq_true hx
  exact ⟨by simpa using hr, h⟩
theorem wp_region_flowX (esc : List Nat) {id : Nat} {a : Act} {w : World} (hm : P.follows .mixedOrders = true) (h : ∀ δ, wpFlowX P .any l.toArray esc Q l.length (Array.replicate l.length false) a (w.grow δ)) : (Code.region id l.toArray true).wp P Q a w := by
  refine wp_region_any hm (wpAny_of_flowX (esc := esc) _ _ _ _ ?_)
  have h1 := h ⟨#[], w.drawn + 1⟩
  rw [← drew_is_grow] at h1
  simpa using h1
end
end Go
/- The world of a goal made opaque. -/
namespace Go.Proofs.Ytccadhfeiehmbaa
set_option linter.unusedVariables false
set_option linter.unusedSimpArgs false
open Go.RowKit
theorem wpList_abs {P : Program} {ops : Array Oper} {Q : Exit → Act → World → Prop} {l : List Oper} {a : Act} {X : World} (h : ∀ Y, Y = X → wpList P ops Q l a Y) : wpList P ops Q l a X := h X rfl
theorem Calls_abs {P : Program} {f : FuncId} {args : Array Value} {X : World} {R : Ending → World → Prop} (h : ∀ Y, Y = X → Calls P f args Y R) : Calls P f args X R := h X rfl
theorem code_abs {P : Program} {c : Code} {Q : Exit → Act → World → Prop} {a : Act} {X : World} (h : ∀ Y, Y = X → Code.wp P c Q a Y) : Code.wp P c Q a X := h X rfl
theorem exit_abs {Q : Exit → Act → World → Prop} {e : Exit} {a : Act} {X : World} (h : ∀ Y, Y = X → Q e a Y) : Q e a X := h X rfl
theorem flow_abs {P : Program} {md : Region.Mode} {ops : Array Oper} {Q : Exit → Act → World → Prop} {f : Nat} {li : Array Bool} {a : Act} {X : World} (h : ∀ Y, Y = X → wpFlow P md ops Q f li a Y) : wpFlow P md ops Q f li a X := h X rfl
theorem envR_abs {P : Program} {md : Region.Mode} {ops : Array Oper} {H : World → Prop} {Q : Exit → Act → World → Prop} {f : Nat} {li : Array Bool} {a : Act} {X : World} (h : ∀ Y, Y = X → wpEnvR P md ops H Q f li a Y) : wpEnvR P md ops H Q f li a X := h X rfl
theorem flowX_abs {P : Program} {md : Region.Mode} {ops : Array Oper} {esc : List Nat} {Q : Exit → Act → World → Prop} {f : Nat} {li : Array Bool} {a : Act} {X : World} (h : ∀ Y, Y = X → wpFlowX P md ops esc Q f li a Y) : wpFlowX P md ops esc Q f li a X := h X rfl
end Go.Proofs.Ytccadhfeiehmbaa
/- A row of the call's own, opened and built. No program in sight. -/
namespace Go.Proofs.Ytccadhfeiehmbaa
set_option linter.unusedVariables false
set_option linter.unusedSimpArgs false
open Go.RowKit
theorem own_frozen {w : World} {base g n cap : Nat} {e : TypeId} {xs : List Value} (h : OwnR w base e (.slice (some ⟨g, 0, none⟩) n cap) xs) (j : Nat) : w.frozen? ⟨g, j, none⟩ = false := by
  rcases h.2 with ⟨h', _⟩ | ⟨g', cap', cur, h', hb, hg, _⟩
  · simp at h'
  · simp only [Value.slice.injEq, Option.some.injEq, Addr.mk.injEq, and_true, true_and] at h'
    obtain ⟨rfl, _⟩ := h'
    simp [World.frozen?, hg]
theorem own_cell {w : World} {base g n cap : Nat} {e : TypeId} {xs : List Value} (h : OwnR w base e (.slice (some ⟨g, 0, none⟩) n cap) xs) (j : Nat) (hj : j < xs.length) : w.cell? ⟨g, j, none⟩ = some xs[j] := by
  have := h.cells (g := g) rfl j xs[j] (by simp [hj])
  rw [add_off, Nat.zero_add] at this
  exact this
theorem own_stored {w : World} {base g n cap : Nat} {e : TypeId} {xs : List Value} (h : OwnR w base e (.slice (some ⟨g, 0, none⟩) n cap) xs) (j : Nat) (u : Value) :
    OwnR (w.setCell ⟨g, j, none⟩ u) base e (.slice (some ⟨g, 0, none⟩) n cap) (xs.set j u) ∧ w.grownBy (w.setCell ⟨g, j, none⟩ u) (some g) := by
  rcases h.2 with ⟨h', _⟩ | ⟨g', cap', cur, h', hb, hg, hn, _⟩
  · simp at h'
  · have hlen : n = xs.length := by simp only [Value.slice.injEq] at h'; omega
    subst hlen
    have := World.ownsRow.stored h j u
    exact ⟨by unfold OwnR; rw [List.length_set]; exact this.1, this.2⟩
/-- A row of the call's own, opened. -/
theorem own_form {w : World} {base : Nat} {e : TypeId} {v : Value} {xs : List Value} (h : OwnR w base e v xs) (hne : 0 < xs.length) :
    ∃ g cap, v = .slice (some ⟨g, 0, none⟩) xs.length cap ∧ base ≤ g ∧ g < w.heap.size ∧ xs.length ≤ cap ∧ cap ≤ maxLen ∧ ∀ j, j < xs.length → w.cell? ⟨g, j, none⟩ = xs[j]? := by
  have h' := h
  rcases h.2 with ⟨rfl, h0⟩ | ⟨g, cap, cur, rfl, hb, hg, hn, hm, _, _⟩
  · omega
  · exact ⟨g, cap, rfl, hb, (Array.getElem?_eq_some_iff.1 hg).1, hn, hm, fun j hj => by rw [own_cell h' j hj, List.getElem?_eq_getElem hj]⟩
theorem own_alloc (w : World) (base : Nat) (e : TypeId) (xs : List Value) (hb : base ≤ w.heap.size) (hl : xs.length ≤ maxLen) : OwnR (w.alloc (.cells xs.toArray e)) base e (.slice (some ⟨w.heap.size, 0, none⟩) xs.length xs.length) xs :=
  ⟨by simp, .inr ⟨_, _, xs.toArray, rfl, hb, heap_alloc_new w _, Nat.le_refl _, hl, by simp, by simp⟩⟩
theorem own_alloc_g (X : World) (a : Junk) (base : Nat) (e : TypeId) (xs : List Value) (hb : base ≤ X.heap.size) (hl : xs.length ≤ maxLen) : OwnR ((X.grow a).alloc (.cells xs.toArray e)) base e (.slice (some ⟨X.heap.size + a.n, 0, none⟩) xs.length xs.length) xs := by
  have := own_alloc (X.grow a) base e xs (by rw [size_grow]; omega) hl
  rwa [size_grow] at this
end Go.Proofs.Ytccadhfeiehmbaa
/- slices.Grow, slices.Concat of bytes. -/
namespace Go.Proofs.Ytccadhfeiehmbaa
set_option linter.unusedVariables false
set_option linter.unusedSimpArgs false
open Go.RowKit
/-- The cells of bytes. -/
def bys (l : List Nat) : List Value := l.map fun (c : Nat) => Value.int .u8 (c : Int)
theorem bys_len (l : List Nat) : (bys l).length = l.length := by simp [bys]
theorem bys_append (l m : List Nat) : bys (l ++ m) = bys l ++ bys m := by simp [bys]
theorem bys_one (l : List Nat) : ∀ x ∈ bys l, x.oneCell' = true := by
  intro x hx
  obtain ⟨c, _, rfl⟩ := List.mem_map.1 hx
  rfl
theorem under_bs : Try.prog.underlying 23 = some (.slice 5) := by kernel_rfl
set_option maxRecDepth 100000 in
theorem info_b : ∃ i, Try.prog.info? 5 = some i ∧ i.zero = some (.int .u8 0) ∧ i.size = 1 ∧ i.bytes = 1 := by
  refine ⟨_, rfl, ?_, ?_, ?_⟩ <;> kernel_rfl
set_option maxRecDepth 100000 in
set_option maxHeartbeats 1600000 in
theorem grow_w (n : Nat) (hn : n ≤ 1099511627776) (w : World) :
    Calls Try.prog 16 #[.slice none 0 0, .int .i64 (n : Int)] w fun e w' => ∃ v, e = .returned v ∧ OwnR w' w.heap.size 5 v [] ∧ Grew w w' := by
  obtain ⟨i, hi, hz, hs, hb⟩ := info_b
  by_cases h0 : n = 0
  · subst h0
    go_enter Try.func16, Try.ntmps16
    go_wp2
    go_ret
    exact ⟨_, rfl, OwnR.nil _ _ _, (by repeat (first | with_reducible exact Grew.refl _ | with_reducible apply Grew.alloc | with_reducible apply Grew.grow | with_reducible apply Grew.drew | with_reducible apply Grew.drewN))⟩
  · have h1 : ¬ ((n : Int) < 0) := by omega
    have h2 : 0 < (n : Int) := by omega
    have hr := fun w => Lib.run_append_nil_zeros (P := Try.prog) w 23 3 23 5 i (.int .u8 0) .i64 .i64 under_bs (by kernel_rfl) hi hz n (by omega) (by omega) (by omega) (by rw [hb]; omega)
    go_enter Try.func16, Try.ntmps16
    go_wp2_with (at_builtin; refine Lib.wpList_append_run _ rfl _ _ _ _ rfl _ _ rfl rfl _ _ (hr _) ?_)
    go_ret
    have hcap := grownCap_ge w n 0 5
    have hmax := grownCap_le_maxLen w n 0 5 (by simp only [maxLen]; omega)
    exact ⟨_, rfl, ⟨rfl, .inr ⟨_, _, _, rfl, Nat.le_refl _, heap_alloc_new w _, Nat.zero_le _, hmax, by simp [Builtin.zeroCells, Value.cells]; omega, rfl⟩⟩, (by repeat (first | with_reducible exact Grew.refl _ | with_reducible apply Grew.alloc | with_reducible apply Grew.grow | with_reducible apply Grew.drew | with_reducible apply Grew.drewN))⟩
def catk (ls : List (List Nat)) (k : Nat) : List Nat := (ls.take k).flatten
theorem catk_0 (ls : List (List Nat)) : catk ls 0 = [] := by simp [catk]
theorem catk_succ (ls : List (List Nat)) (k : Nat) (h : k < ls.length) : catk ls (k + 1) = catk ls k ++ ls.getD k [] := by
  unfold catk
  rw [List.take_add_one, List.flatten_append]
  congr 1
  simp [List.getD, h]
theorem catk_all (ls : List (List Nat)) : catk ls ls.length = ls.flatten := by simp [catk]
theorem catk_le (ls : List (List Nat)) (k : Nat) : (catk ls k).length ≤ ls.flatten.length := by
  unfold catk
  conv => rhs; rw [← List.take_append_drop k ls]
  rw [List.flatten_append, List.length_append]
  omega
theorem catk_len (ls : List (List Nat)) (k : Nat) (h : k < ls.length) : (catk ls (k + 1)).length = (catk ls k).length + (ls.getD k []).length := by rw [catk_succ ls k h, List.length_append]
theorem shows_form {w : World} {v : Value} {xs : List Value} (h : Shows w v xs) : ∃ p c, v = .slice p xs.length c := by
  rcases h with ⟨b, o, c, rfl, _⟩ | ⟨p, c, rfl, rfl⟩
  · exact ⟨_, _, rfl⟩
  · exact ⟨_, _, rfl⟩
/-- Here the walk halts. -/
def Stop (p : Prop) : Prop := p
theorem stop_of {p : Prop} (h : Stop p) : p := h
set_option maxRecDepth 100000 in
set_option maxHeartbeats 1600000 in
theorem concat_w (ls : List (List Nat)) (vs : List Value) (lv : Value) (w : World) (hvs : vs.length = ls.length) (hl : Shows w lv vs)
    (hs : ∀ k, k < ls.length → Shows w (vs.getD k undef) (bys (ls.getD k []))) (hN : ls.flatten.length ≤ 1099511627776) (hL : ls.length ≤ 1099511627776) :
    Calls Try.prog 13 #[lv] w fun e w' => ∃ v, e = .returned v ∧ OwnR w' w.heap.size 5 v (bys ls.flatten) ∧ Grew w w' := by
  obtain ⟨i, hi, hz, hsz, hby⟩ := info_b
  rcases hl with ⟨b, o, c, rfl, hb, hc⟩ | ⟨p0, c0, rfl, h0⟩
  · have HC := Lib.hid hc
    have HS := Lib.hid hs
    have HV := Lib.hid hvs
    rw [hvs]
    clear hc hs hvs
    go_enter Try.func13, Try.ntmps13
    go_wp2
    go_loopw [11, 3] (fun n m wr => ∃ k : Nat, k ≤ ls.length ∧ n = .int .i64 k ∧ m = .int .i64 ((catk ls k).length : Nat) ∧ wr = w) (fun n _ _ => ls.length - (intOf n).toNat)
    case atStart => exact ⟨0, by omega, rfl, rfl, rfl⟩
    case round =>
      obtain ⟨k, hk, rfl, rfl, rfl⟩ := hrel
      by_cases hn : k < ls.length
      · have hlt : (k : Int) < (ls.length : Int) := by omega
        obtain ⟨p, c', hv⟩ := shows_form (HS.out k hn)
        have hcell := HC.out k (.slice p (bys (ls.getD k [])).length c') (by rw [← hv]; simp [List.getD, HV.out, hn])
        rw [bys_len] at hcell
        have e1 := catk_len ls k hn
        have e2 := catk_le ls (k + 1)
        have e3 : (((catk ls k).length : Int) + ((ls.getD k []).length : Int)) = ((catk ls (k + 1)).length : Nat) := by omega
        have e4 : ¬ (((catk ls (k + 1)).length : Int) < 0) := by omega
        clear hv
        generalize (ls.getD k []).length = q at *
        have e6 : IntKind.i64.wrap (((catk ls k).length : Int) + (q : Int)) = ((catk ls (k + 1)).length : Nat) := by rw [IntKind.wrap_i64]; omega
        clear e1 e2 e3
        obtain ⟨q1, hq1⟩ : ∃ q1, (catk ls k).length = q1 := ⟨_, rfl⟩
        obtain ⟨q2, hq2⟩ : ∃ q2, (catk ls (k + 1)).length = q2 := ⟨_, rfl⟩
        rw [hq1, hq2] at e6
        rw [hq2] at e4
        rw [hq1]
        have HQ := Lib.hid hq2
        clear hq1 hq2
        go_wp2
        exact ⟨⟨k + 1, by omega, by go_num, by rw [HQ.out], trivial⟩, by simp only [intOf]; omega⟩
      · obtain rfl : k = ls.length := by omega
        clear hk hn
        have hge : ¬ ((ls.length : Int) < (ls.length : Int)) := by omega
        go_wp2_with (go_at_call 16; refine (grow_w _ (by rw [catk_all]; exact hN) _).mono ?_; rintro e w' ⟨v, rfl, ho, hg⟩)
        have HG := Lib.hid hg
        have HO := Lib.hid ho
        have hb2 : wr.heap.size ≤ w'.heap.size := hg.size
        clear hg ho
        go_loopw [27, 6] (fun n v2 w2 => ∃ k : Nat, k ≤ ls.length ∧ n = .int .i64 k ∧ OwnR w2 wr.heap.size 5 v2 (bys (catk ls k)) ∧ Grew wr w2) (fun n _ _ => ls.length - (intOf n).toNat)
        case atStart => exact ⟨0, by omega, rfl, by rw [catk_0]; exact HO.out, HG.out⟩
        case round =>
          obtain ⟨k, hk, rfl, ho2, hg2⟩ := hrel
          by_cases hn : k < ls.length
          · have hlt : (k : Int) < (ls.length : Int) := by omega
            have hsk := (HS.out k hn).grew hg2
            obtain ⟨p, c', hv⟩ := shows_form (HS.out k hn)
            rw [hv, bys_len] at hsk
            have hcell := hg2.cell (HC.out k (.slice p (bys (ls.getD k [])).length c') (by rw [← hv]; simp [List.getD, HV.out, hn]))
            rw [bys_len] at hcell
            have e1 := catk_len ls k hn
            have e2 := catk_le ls (k + 1)
            have HS2 := hsk
            have HO2 := Lib.hid ho2
            have HG2 := Lib.hid hg2
            have hsz2 := hg2.size
            have e7 := catk_succ ls k hn
            obtain ⟨m, hm⟩ : ∃ m, ls.getD k [] = m := ⟨_, rfl⟩
            rw [hm] at HS2 hcell e1 e7
            have E7 := Lib.hid e7
            have HS3 := Lib.hid HS2
            clear HS2
            clear hv hsk ho2 hg2 hm e7
            go_wp2_with (at_builtin; refine stop_of ?_)
            unfold Stop
            refine wpList_append_shows rfl _ _ _ rfl _ _ i _ 1 under_bs hi hz hsz hby rfl _ _ rfl rfl _ _ HO2.out HS3.out (bys_one _) (by rw [bys_len, bys_len]; simp only [maxLen]; omega) (by rw [bys_len, bys_len]; omega) hsz2 ?_
            intro v' w2' ho' hg'
            have hrow := HO2.out.block
            go_wp2
            refine ⟨⟨k + 1, by omega, by go_num, by rw [E7.out, bys_append]; exact ho', Grew.grown HG2.out hg' fun j hj => (hrow j hj).1⟩, by simp only [intOf]; omega⟩
          · obtain rfl : k = ls.length := by omega
            clear hk hn
            have hge : ¬ ((ls.length : Int) < (ls.length : Int)) := by omega
            rw [catk_all] at ho2
            go_wp2
            go_ret
            exact ⟨_, rfl, ho2, hg2⟩
  · obtain rfl : vs = [] := h0
    obtain rfl : ls = [] := List.length_eq_zero_iff.1 hvs.symm
    go_enter Try.func13, Try.ntmps13
    go_wp2
    go_loopw [11, 3] (fun n m wr => n = .int .i64 0 ∧ m = .int .i64 0 ∧ wr = w) (fun _ _ _ => 0)
    case atStart => exact ⟨rfl, rfl, rfl⟩
    case round =>
      obtain ⟨rfl, rfl, rfl⟩ := hrel
      go_wp2_with (go_at_call 16; refine (grow_w 0 (by omega) _).mono ?_; rintro e w' ⟨v, rfl, ho, hg⟩)
      have HG := Lib.hid hg
      have HO := Lib.hid ho
      clear hg ho
      go_loopw [27, 6] (fun n v2 w2 => n = .int .i64 0 ∧ OwnR w2 wr.heap.size 5 v2 [] ∧ Grew wr w2) (fun _ _ _ => 0)
      case atStart => exact ⟨rfl, HO.out, HG.out⟩
      case round =>
        obtain ⟨rfl, ho2, hg2⟩ := hrel
        go_wp2
        go_ret
        exact ⟨_, rfl, ho2, hg2⟩
end Go.Proofs.Ytccadhfeiehmbaa
/- Bytes as cells, ids as 32 bytes, and the bytes of a number below 2^256. No program in sight. -/
namespace Go.Proofs.Ytccadhfeiehmbaa
set_option linter.unusedVariables false
set_option linter.unusedSimpArgs false

/-- The cells of bytes. -/
def iv (l : List Nat) : Array Value := (l.map fun (c : Nat) => Value.int .u8 (c : Int)).toArray
theorem iv_size (l : List Nat) : (iv l).size = l.length := by simp [iv]
theorem iv_get (l : List Nat) (i : Nat) (h : i < l.length) : (iv l)[i]? = some (.int .u8 (l[i] : Nat)) := by simp [iv, h]
theorem iv_set (l : List Nat) (i : Nat) (c : Nat) : (iv l).setIfInBounds i (.int .u8 (c : Int)) = iv (l.set i c) := by
  unfold iv
  rw [List.setIfInBounds_toArray, List.map_set]
theorem iv_toList (l : List Nat) : (iv l).toList = l.map fun (c : Nat) => Value.int .u8 (c : Int) := rfl
theorem iv_inj {l k : List Nat} (h : iv l = iv k) : l = k := by
  unfold iv at h
  have h1 := Array.mk.inj h
  refine (List.map_inj_right ?_).1 h1
  intro x y e
  simp only [Value.int.injEq] at e
  omega
attribute [go_sem] iv_size

/-- 'n' bytes, of which the first 'k' are given by 'f' and the others are 0. -/
def filled (f : Nat → Nat) (n k : Nat) : List Nat := (List.range n).map fun i => if i < k then f i else 0
theorem filled_length (f : Nat → Nat) (n k : Nat) : (filled f n k).length = n := by simp [filled]
theorem filled_get (f : Nat → Nat) (n k i : Nat) (h : i < n) : (filled f n k)[i]'(by rw [filled_length]; exact h) = if i < k then f i else 0 := by simp [filled]
theorem filled_zero (f : Nat → Nat) (n : Nat) : filled f n 0 = List.replicate n 0 := by
  apply List.ext_getElem
  · simp [filled]
  · intro i h1 h2; simp [filled]
theorem filled_step (f : Nat → Nat) (n k : Nat) : (filled f n k).set k (f k) = filled f n (k + 1) := by
  apply List.ext_getElem
  · simp [filled]
  · intro i h1 h2
    simp only [List.getElem_set, filled, List.getElem_map, List.getElem_range]
    by_cases h : k = i
    · subst h; simp
    · rw [if_neg h]
      by_cases h3 : i < k
      · rw [if_pos h3, if_pos (by omega)]
      · rw [if_neg h3, if_neg (by omega)]
theorem filled_all (f : Nat → Nat) (n : Nat) : filled f n n = (List.range n).map f := by
  unfold filled
  apply List.map_congr_left
  intro i hi
  rw [if_pos (by simpa using hi)]

/-- Byte 'i' of a number below 2^256, the highest one first. -/
def byteN (x i : Nat) : Nat := x >>> (8 * (31 - i)) % 256
theorem byteN_lt (x i : Nat) : byteN x i < 256 := Nat.mod_lt _ (by decide)
def bytesN (x : Nat) : List Nat := (List.range 32).map (byteN x)
theorem bytesN_length (x : Nat) : (bytesN x).length = 32 := by simp [bytesN]
theorem byteN_lb (x i : Nat) (h : i < 32) : byteN x i = lb x (3 - i / 8) >>> (56 - 8 * (i % 8)) % 256 := by
  apply Nat.eq_of_testBit_eq
  intro k
  unfold byteN
  rw [show (256 : Nat) = 2 ^ 8 from rfl, Nat.testBit_mod_two_pow, Nat.testBit_mod_two_pow, Nat.testBit_shiftRight, Nat.testBit_shiftRight, lb_bit]
  by_cases hk : k < 8
  · have h1 : 56 - 8 * (i % 8) + k < 64 := by omega
    rw [show 64 * (3 - i / 8) + (56 - 8 * (i % 8) + k) = 8 * (31 - i) + k by omega]
    simp [hk, h1]
  · simp [hk]

theorem snoc_ind {α : Type} {P : List α → Prop} (h0 : P []) (h1 : ∀ l a, P l → P (l ++ [a])) (l : List α) : P l := by
  have h : ∀ l : List α, P l.reverse := by
    intro l
    induction l with
    | nil => exact h0
    | cons a l ih => rw [List.reverse_cons]; exact h1 _ _ ih
  have := h l.reverse
  rwa [List.reverse_reverse] at this
/-- The number of bytes, the highest one first. -/
def numB : List Nat → Nat := List.foldl (fun n c => 256 * n + c) 0
theorem numB_snoc (l : List Nat) (c : Nat) : numB (l ++ [c]) = 256 * numB l + c := by simp [numB]
theorem foldl_num (l : List Nat) : ∀ a : Nat, l.foldl (fun n c => 256 * n + c) a = a * 256 ^ l.length + numB l := by
  unfold numB
  induction l with
  | nil => simp
  | cons c l ih =>
    intro a
    simp only [List.foldl_cons, List.length_cons]
    rw [ih, ih (256 * 0 + c)]
    rw [Nat.mul_zero, Nat.zero_add, Nat.add_mul, Nat.pow_succ, Nat.add_assoc]
    congr 1
    rw [Nat.mul_comm 256 a, Nat.mul_assoc, Nat.mul_comm 256]
theorem numB_append (l k : List Nat) : numB (l ++ k) = numB l * 256 ^ k.length + numB k := by
  show (l ++ k).foldl _ 0 = _
  rw [List.foldl_append, foldl_num]; rfl
theorem numB_lt (l : List Nat) (h : ∀ c ∈ l, c < 256) : numB l < 256 ^ l.length := by
  induction l using snoc_ind with
  | h0 => simp [numB]
  | h1 l c ih =>
    rw [numB_snoc, List.length_append, List.length_singleton, Nat.pow_succ]
    have h1 := ih fun c hc => h c (by simp [hc])
    have h2 := h c (by simp)
    omega
/-- One of four parts of 32 bytes: the number of those from 's' on, at most 8, ahead of place 'k'. -/
def limb (l : List Nat) (s k : Nat) : Nat := numB ((l.drop s).take (min 8 (k - s)))
theorem limb_lt (l : List Nat) (s k : Nat) (h : ∀ c ∈ l, c < 256) : limb l s k < 18446744073709551616 := by
  have h1 := numB_lt ((l.drop s).take (min 8 (k - s))) fun c hc => h c (List.mem_of_mem_drop (List.mem_of_mem_take hc))
  have h2 : ((l.drop s).take (min 8 (k - s))).length ≤ 8 := by rw [List.length_take]; omega
  have h3 : 256 ^ ((l.drop s).take (min 8 (k - s))).length ≤ 256 ^ 8 := Nat.pow_le_pow_right (by decide) h2
  have h4 : (256 : Nat) ^ 8 = 18446744073709551616 := by decide
  unfold limb
  omega
theorem limb_zero (l : List Nat) (s : Nat) : limb l s 0 = 0 := by simp [limb, numB]
theorem limb_step (l : List Nat) (s k : Nat) (h1 : s ≤ k) (h2 : k < s + 8) (h : k < l.length) : limb l s (k + 1) = 256 * limb l s k + l[k] := by
  unfold limb
  rw [show min 8 (k + 1 - s) = (k - s) + 1 by omega, show min 8 (k - s) = k - s by omega]
  rw [List.take_succ_eq_append_getElem (by rw [List.length_drop]; omega), numB_snoc]
  congr 1
  rw [List.getElem_drop]
  congr 1
  omega
theorem limb_other (l : List Nat) (s k : Nat) (h : k < s ∨ s + 8 ≤ k) : limb l s (k + 1) = limb l s k := by
  unfold limb
  congr 2
  omega
theorem limb_small (l : List Nat) (s k : Nat) (h1 : s ≤ k) (h2 : k < s + 8) (h : ∀ c ∈ l, c < 256) (hk : k < l.length) : limb l s k < 72057594037927936 := by
  have e := limb_step l s k h1 h2 hk
  have h3 := limb_lt l s (k + 1) h
  omega
/-- The four parts of 32 bytes, as far as place 'k'. -/
def limbs (l : List Nat) (k : Nat) : Array Value := #[.int .u64 (limb l 24 k), .int .u64 (limb l 16 k), .int .u64 (limb l 8 k), .int .u64 (limb l 0 k)]
theorem limbs_start (l : List Nat) : limbs l 0 = #[.int .u64 0, .int .u64 0, .int .u64 0, .int .u64 0] := by
  simp [limbs, limb_zero]
theorem limbs_get (l : List Nat) (k : Nat) (h : k < 32) : (limbs l k)[3 - k / 8]? = some (.int .u64 (limb l (8 * (k / 8)) k)) := by
  have : k / 8 = 0 ∨ k / 8 = 1 ∨ k / 8 = 2 ∨ k / 8 = 3 := by omega
  rcases this with e | e | e | e <;> rw [e] <;> rfl
theorem limbs_set (l : List Nat) (k : Nat) (h : k < 32) (hl : l.length = 32) (v : Int) (hv : v = ((256 * limb l (8 * (k / 8)) k + l[k] : Nat) : Int)) : (limbs l k).setIfInBounds (3 - k / 8) (.int .u64 v) = limbs l (k + 1) := by
  subst hv
  have : k / 8 = 0 ∨ k / 8 = 1 ∨ k / 8 = 2 ∨ k / 8 = 3 := by omega
  unfold limbs
  rcases this with e | e | e | e <;> rw [e]
  · rw [limb_other l 24 k (by omega), limb_other l 16 k (by omega), limb_other l 8 k (by omega), limb_step l 0 k (by omega) (by omega) (by omega)]; rfl
  · rw [limb_other l 24 k (by omega), limb_other l 16 k (by omega), limb_other l 0 k (by omega), limb_step l 8 k (by omega) (by omega) (by omega)]; rfl
  · rw [limb_other l 24 k (by omega), limb_other l 8 k (by omega), limb_other l 0 k (by omega), limb_step l 16 k (by omega) (by omega) (by omega)]; rfl
  · rw [limb_other l 16 k (by omega), limb_other l 8 k (by omega), limb_other l 0 k (by omega), limb_step l 24 k (by omega) (by omega) (by omega)]; rfl
theorem limbs_end (l : List Nat) (hl : l.length = 32) (hc : ∀ c ∈ l, c < 256) : limbs l 32 = wv (numB l) := by
  have e : ∀ s, s + 8 ≤ 32 → limb l s 32 = numB ((l.drop s).take 8) := fun s hs => by unfold limb; congr 2; omega
  unfold limbs
  rw [wv_w4 (limb_lt _ _ _ hc) (limb_lt _ _ _ hc) (limb_lt _ _ _ hc) (limb_lt _ _ _ hc)]
  congr 1
  have h0 : l = (l.drop 0).take 8 ++ ((l.drop 8).take 8 ++ ((l.drop 16).take 8 ++ (l.drop 24).take 8)) := by
    have e24 : (l.drop 24).take 8 = l.drop 24 := List.take_of_length_le (by rw [List.length_drop]; omega)
    have c16 : (l.drop 16).take 8 ++ l.drop 24 = l.drop 16 := by
      rw [show l.drop 24 = (l.drop 16).drop 8 by rw [List.drop_drop]]; exact List.take_append_drop 8 _
    have c8 : (l.drop 8).take 8 ++ l.drop 16 = l.drop 8 := by
      rw [show l.drop 16 = (l.drop 8).drop 8 by rw [List.drop_drop]]; exact List.take_append_drop 8 _
    rw [e24, c16, c8, List.drop_zero]
    exact (List.take_append_drop 8 _).symm
  rw [e 24 (by omega), e 16 (by omega), e 8 (by omega), e 0 (by omega)]
  have hlen : ∀ s, s + 8 ≤ 32 → ((l.drop s).take 8).length = 8 := fun s hs => by rw [List.length_take, List.length_drop]; omega
  have h1 := congrArg numB h0
  rw [numB_append, numB_append, numB_append, List.length_append, List.length_append, hlen 8 (by omega), hlen 16 (by omega), hlen 24 (by omega)] at h1
  rw [h1]
  unfold w4
  have p1 : (256 : Nat) ^ (8 + (8 + 8)) = 6277101735386680763835789423207666416102355444464034512896 := by decide +kernel
  have p2 : (256 : Nat) ^ (8 + 8) = 340282366920938463463374607431768211456 := by decide +kernel
  have p3 : (256 : Nat) ^ 8 = 18446744073709551616 := by decide +kernel
  rw [p1, p2, p3]
  omega
theorem pow256_32 : (256 : Nat) ^ 32 = B256 := by decide +kernel
theorem numB_lt256 (l : List Nat) (hl : l.length = 32) (hc : ∀ c ∈ l, c < 256) : numB l < B256 := by
  have := numB_lt l hc
  rwa [hl, pow256_32] at this
theorem numB_bytes_aux (x : Nat) : ∀ k, k ≤ 32 → numB ((List.range k).map (byteN x)) = x >>> (8 * (32 - k)) % 256 ^ k
  | 0, _ => by simp [numB, Nat.mod_one]
  | k + 1, h => by
    rw [List.range_succ, List.map_append, List.map_singleton, numB_snoc, numB_bytes_aux x k (by omega)]
    unfold byteN
    rw [show 31 - k = 32 - (k + 1) by omega, Nat.shiftRight_eq_div_pow, Nat.shiftRight_eq_div_pow]
    rw [show 8 * (32 - k) = 8 * (32 - (k + 1)) + 8 by omega, Nat.pow_add, ← Nat.div_div_eq_div_mul]
    generalize x / 2 ^ (8 * (32 - (k + 1))) = y
    rw [show (2 : Nat) ^ 8 = 256 from rfl, Nat.pow_succ, Nat.mul_comm (256 ^ k) 256, Nat.mod_mul]
    omega
theorem numB_bytesN (x : Nat) (h : x < B256) : numB (bytesN x) = x := by
  unfold bytesN
  rw [numB_bytes_aux x 32 (by omega), pow256_32]
  simpa using Nat.mod_eq_of_lt h
theorem numB_inj : ∀ {l k : List Nat}, l.length = k.length → (∀ c ∈ l, c < 256) → (∀ c ∈ k, c < 256) → numB l = numB k → l = k := by
  intro l
  induction l using snoc_ind with
  | h0 => intro k h _ _ _; exact (List.length_eq_zero_iff.1 h.symm).symm
  | h1 l c ih =>
    intro k h h1 h2 h3
    rcases List.eq_nil_or_concat k with rfl | ⟨k', d, rfl⟩
    · simp at h
    · rw [List.concat_eq_append] at *
      rw [numB_snoc, numB_snoc] at h3
      have c1 := h1 c (by simp)
      have c2 := h2 d (by simp)
      have e := ih (k := k') (by simpa using h) (fun c hc => h1 c (by simp [hc])) (fun c hc => h2 c (by simp [hc])) (by omega)
      subst e
      have : c = d := by omega
      subst this; rfl
end Go.Proofs.Ytccadhfeiehmbaa
/- Bytes as strings. No program in sight. -/
namespace Go.Proofs.Ytccadhfeiehmbaa
set_option linter.unusedVariables false
set_option linter.unusedSimpArgs false
open Go.RowKit

/-- The string of bytes. -/
def bstr (l : List Nat) : ByteArray := ⟨(l.map UInt8.ofNat).toArray⟩
theorem bstr_toList (l : List Nat) : (bstr l).toList = l.map UInt8.ofNat := ByteArray.toList_mk _
theorem u8_inj {a b : Nat} (ha : a < 256) (hb : b < 256) (h : UInt8.ofNat a = UInt8.ofNat b) : a = b := by
  have := congrArg UInt8.toNat h
  simpa [Nat.mod_eq_of_lt ha, Nat.mod_eq_of_lt hb] using this
theorem u8_lt {a b : Nat} (ha : a < 256) (hb : b < 256) : UInt8.ofNat a < UInt8.ofNat b ↔ a < b := by
  rw [UInt8.lt_iff_toNat_lt]
  simp [Nat.mod_eq_of_lt ha, Nat.mod_eq_of_lt hb]
/-- Which of two rows of bytes comes first. -/
def lexB : List Nat → List Nat → Bool
  | _, [] => false
  | [], _ :: _ => true
  | a :: x, b :: y => decide (a < b) || (decide (a = b) && lexB x y)
theorem less_bstr : ∀ (l k : List Nat), (∀ c ∈ l, c < 256) → (∀ c ∈ k, c < 256) → Op.bytesLess (bstr l).toList (bstr k).toList = lexB l k := by
  intro l k
  rw [bstr_toList, bstr_toList]
  induction l generalizing k with
  | nil => intro _ _; cases k <;> rfl
  | cons a l ih =>
    intro h1 h2
    cases k with
    | nil => rfl
    | cons b k =>
      have ha := h1 a (by simp)
      have hb := h2 b (by simp)
      simp only [List.map_cons, Op.bytesLess, lexB]
      rw [ih k (fun c hc => h1 c (by simp [hc])) (fun c hc => h2 c (by simp [hc]))]
      congr 1
      · rw [Bool.eq_iff_iff, decide_eq_true_eq, decide_eq_true_eq]; exact u8_lt ha hb
      · congr 1
        rw [Bool.eq_iff_iff, beq_iff_eq, decide_eq_true_eq]
        exact ⟨u8_inj ha hb, fun h => by rw [h]⟩
theorem eq_bstr : ∀ (l k : List Nat), (∀ c ∈ l, c < 256) → (∀ c ∈ k, c < 256) → ((bstr l).toList == (bstr k).toList) = decide (l = k) := by
  intro l k h1 h2
  rw [bstr_toList, bstr_toList, Bool.eq_iff_iff, beq_iff_eq, decide_eq_true_eq]
  constructor
  · intro h
    induction l generalizing k with
    | nil => cases k with
      | nil => rfl
      | cons b k => simp at h
    | cons a l ih =>
      cases k with
      | nil => simp at h
      | cons b k =>
        simp only [List.map_cons, List.cons.injEq] at h
        rw [u8_inj (h1 a (by simp)) (h2 b (by simp)) h.1, ih k (fun c hc => h1 c (by simp [hc])) (fun c hc => h2 c (by simp [hc])) h.2]
  · intro h; rw [h]
theorem lexB_num : ∀ (l k : List Nat), l.length = k.length → (∀ c ∈ l, c < 256) → (∀ c ∈ k, c < 256) → lexB l k = decide (numB l < numB k) := by
  intro l
  induction l with
  | nil => intro k h _ _; have : k = [] := List.length_eq_zero_iff.1 h.symm; subst this; simp [lexB]
  | cons a l ih =>
    intro k h h1 h2
    cases k with
    | nil => simp at h
    | cons b k =>
      have hl : l.length = k.length := by simpa using h
      have e1 : numB (a :: l) = a * 256 ^ l.length + numB l := by
        have := numB_append [a] l
        simpa [numB] using this
      have e2 : numB (b :: k) = b * 256 ^ k.length + numB k := by
        have := numB_append [b] k
        simpa [numB] using this
      have g1 := numB_lt l fun c hc => h1 c (by simp [hc])
      have g2 := numB_lt k fun c hc => h2 c (by simp [hc])
      simp only [lexB]
      rw [ih k hl (fun c hc => h1 c (by simp [hc])) (fun c hc => h2 c (by simp [hc])), e1, e2, hl]
      rw [hl] at g1
      generalize 256 ^ k.length = p at *
      generalize numB l = x at *
      generalize numB k = y at *
      rw [Bool.eq_iff_iff]
      simp only [Bool.or_eq_true, Bool.and_eq_true, decide_eq_true_eq]
      rcases Nat.lt_trichotomy a b with hab | hab | hab
      · have := Nat.mul_le_mul_right p (show a + 1 ≤ b from hab)
        rw [Nat.add_mul, Nat.one_mul] at this
        exact ⟨fun _ => by omega, fun _ => .inl hab⟩
      · subst hab
        exact ⟨fun h => by rcases h with h | h <;> omega, fun h => .inr ⟨rfl, by omega⟩⟩
      · have := Nat.mul_le_mul_right p (show b + 1 ≤ a from hab)
        rw [Nat.add_mul, Nat.one_mul] at this
        exact ⟨fun h => by rcases h with h | h <;> omega, fun h => by omega⟩

/-- The bytes that lie in a row. -/
def rowNats (cs : Array Value) (o n : Nat) : List Nat := (List.range n).map fun i => match cs[o + i]? with | some (.int .u8 a) => a.toNat | _ => 0
def rowOk (cs : Array Value) (o n : Nat) : Bool := (List.range n).all fun i => match cs[o + i]? with | some (.int .u8 a) => decide (0 ≤ a ∧ a < 256) | _ => false
theorem rowNats_length (cs : Array Value) (o n : Nat) : (rowNats cs o n).length = n := by simp [rowNats]
theorem rowNats_iv (l : List Nat) (o n : Nat) (h : o + n ≤ l.length) : rowNats (iv l) o n = (l.drop o).take n := by
  apply List.ext_getElem
  · simp [rowNats]; omega
  · intro i h1 h2
    simp only [rowNats_length] at h1
    simp only [rowNats, List.getElem_map, List.getElem_range, iv_get l (o + i) (by omega), List.getElem_take, List.getElem_drop]
    omega
theorem rowOk_iv (l : List Nat) (o n : Nat) (h : o + n ≤ l.length) (hc : ∀ c ∈ l, c < 256) : rowOk (iv l) o n = true := by
  unfold rowOk
  rw [List.all_eq_true]
  intro i hi
  have hi' : i < n := by simpa using hi
  rw [iv_get l (o + i) (by omega)]
  have := hc l[o + i] (List.getElem_mem _)
  simp; omega
theorem rowNats_all (l : List Nat) (n : Nat) (h : l.length = n) : rowNats (iv l) 0 n = l := by
  rw [rowNats_iv l 0 n (by omega), List.drop_zero, List.take_of_length_le (by omega)]
theorem run_bytes_row {P : Program} (w : World) (src dst e : TypeId) (g o n c : Nat)
    (hs : P.underlying src = some (.slice e)) (he : P.underlying e = some (.int .u8)) (hd : P.underlying dst = some .string) (h : rowOk (w.rowAt g) o n = true) :
    (convert src dst (.slice (some ⟨g, o, none⟩) n c)).run P w = .ok (.string (bstr (rowNats (w.rowAt g) o n))) w := by
  rw [run_convert_bytes_string w src dst e _ _ _ hs he hd]
  unfold rowOk at h
  rw [List.all_eq_true] at h
  have hl := run_loadCells_list (P := P) (w := w) ⟨g, o, none⟩ ((rowNats (w.rowAt g) o n).map fun (c : Nat) => Value.int .u8 (c : Int)) (fun j v hv => by
    have hj : j < n := by
      have := (List.getElem?_eq_some_iff.1 hv).1
      simpa [rowNats] using this
    have hb := h j (by simpa using hj)
    have hadd : (⟨g, o, none⟩ : Addr).add j = ⟨g, o + j, none⟩ := by unfold Addr.add; split <;> simp_all
    rw [hadd, cell_rowAt]
    simp only [rowNats, List.map_map, List.getElem?_map, List.getElem?_range hj, Option.map_some, Function.comp] at hv
    split at hb
    · rename_i a ha
      rw [ha] at hv ⊢
      simp only [decide_eq_true_eq] at hb
      simp only [Option.some.injEq] at hv
      rw [← hv]
      congr 2
      omega
    · cases hb)
  rw [List.length_map, rowNats_length] at hl
  have hm : ((rowNats (w.rowAt g) o n).map fun (c : Nat) => Value.int .u8 (c : Int)) = (((rowNats (w.rowAt g) o n).map fun (c : Nat) => (c : Int)).map (Value.int .u8)) := by simp
  rw [hm] at hl
  rw [run_bytesToString w ⟨g, o, none⟩ n c _ hl]
  congr 2
  generalize rowNats (w.rowAt g) o n = l
  have key : ∀ (l : List Nat) (s : ByteArray), (l.map fun (c : Nat) => (c : Int)).foldl (fun r n => r.push (UInt8.ofNat n.toNat)) s = ⟨(s.data.toList ++ l.map UInt8.ofNat).toArray⟩ := by
    intro l
    induction l with
    | nil => intro s; simp
    | cons a l ih =>
      intro s
      simp only [List.map_cons, List.foldl_cons, Int.toNat_natCast]
      rw [ih]
      simp [ByteArray.push]
  rw [key]
  rfl
end Go.Proofs.Ytccadhfeiehmbaa
/- What is shown, as a string. -/
namespace Go.Proofs.Ytccadhfeiehmbaa
set_option linter.unusedVariables false
set_option linter.unusedSimpArgs false
open Go.RowKit
theorem foldl_push (l : List Nat) : ∀ (s : ByteArray), (l.map fun (c : Nat) => (c : Int)).foldl (fun r n => r.push (UInt8.ofNat n.toNat)) s = ⟨(s.data.toList ++ l.map UInt8.ofNat).toArray⟩ := by
  induction l with
  | nil => intro s; simp
  | cons a l ih =>
    intro s
    simp only [List.map_cons, List.foldl_cons, Int.toNat_natCast]
    rw [ih]
    simp [ByteArray.push]
/-- What is shown, as a string. -/
theorem shows_string {w : World} {v : Value} {l : List Nat} (h : Shows w v (bys l)) : (convert 23 9 v).run Try.prog w = .ok (.string (bstr l)) w := by
  have key : ∀ (a : Addr) (c : Nat), (∀ j u, (bys l)[j]? = some u → w.cell? (a.add j) = some u) → (convert 23 9 (.slice (some a) (bys l).length c)).run Try.prog w = .ok (.string (bstr l)) w := fun a c h => by
    have hl := run_loadCells_list (P := Try.prog) (w := w) a (bys l) h
    have hm : bys l = ((l.map fun (c : Nat) => (c : Int)).map (Value.int .u8)) := by simp [bys]
    rw [run_convert_bytes_string w _ _ 5 _ _ _ Try.underlying23 Try.underlying5 Try.underlying9, run_bytesToString w a _ c (l.map fun (c : Nat) => (c : Int)) (by rw [hl, hm]), foldl_push]
    rfl
  rcases h with ⟨b, o, c, rfl, hb, h⟩ | ⟨p, c, rfl, h0⟩
  · exact key _ c (fun j u hj => by rw [add_off]; exact h j u hj)
  · have hl : l = [] := by cases l with | nil => rfl | cons a l => simp [bys] at h0
    subst hl
    cases p with
    | some a => exact key a c (by simp [bys])
    | none =>
      rw [run_convert_bytes_string w _ _ 5 _ _ _ Try.underlying23 Try.underlying5 Try.underlying9]
      rfl
theorem conv_str {w : World} {v : Value} {l : List Nat} (h : Shows w v (bys l)) (δ : Junk) : (convert 23 9 v).run Try.prog (w.grow δ) = .ok (.string (bstr l)) (w.grow δ) := shows_string (h.grew ⟨δ, rfl⟩)
end Go.Proofs.Ytccadhfeiehmbaa
/- What stands behind a call. -/
namespace Go.Proofs.Ytccadhfeiehmbaa
set_option linter.unusedVariables false
set_option linter.unusedSimpArgs false
open Go.ChangeShapes Go.WideShapes Go.ChangeAt Go.RowKit

/-- Behind a call that leaves what was as it was. -/
theorem post_of_old {H : Type} {enc : TypeId × Value → H} {P : Program} {f : Func} {s : ChangeSpec} {apart fresh handsOn again : Bool} {W W' : World} {args : Array Value} {v : Value} {ds gs : List (DataW H)} {before pa pv : List MemPlace}
    (hW : DataW.Whole enc P f.params.toList s.vars apart W args.toList ds gs before)
    (hres : ∀ (b : Nat) (sp : Nat → Bool) (hd : Bool), DataW.TrodAll enc P W' b sp hd f.resultTypes.toList (v.resultList f.resultTypes.size) (s.fn H (ds ++ gs)).results [])
    (hargs : ∀ sp : Nat → Bool, (∀ p ∈ before, sp p.block = true) → DataW.TrodAll enc P W' 0 sp true f.params.toList args.toList (s.fn H (ds ++ gs)).args pa)
    (hvars : ∀ sp : Nat → Bool, (∀ p ∈ before, sp p.block = true) → DataW.TrodVars enc P W' sp s.vars (s.fn H (ds ++ gs)).vars pv)
    (hps : before = pa ++ pv) (hg : Grew W W')
    (hok : ∀ (j : Nat) (t : TypeId) (r : Value), f.resultTypes[j]? = some t → (v.resultList f.resultTypes.size)[j]? = some r → Value.okWide P W' .any 0 t r) :
    s.post enc P f apart fresh handsOn again W args v W' := by
  have hlt := hW.lt
  have hold : ∀ p ∈ before, (fun b => decide (b < W.heap.size)) p.block = true := fun p hp => by simpa using hlt p hp
  refine ⟨ds, gs, before, [], pa, pv, hW, hres _ _ _, hargs _ hold, hvars _ hold, World.keptBut_mono (fun p hp => ⟨hp, ?_⟩) (hg.below.frame (· ∈ before)), fun _ => ?_⟩
  · rw [hps, List.mem_append] at hp
    exact Or.inr hp
  · obtain ⟨_, _, _, _, _, hz, hn⟩ := hW
    refine ⟨hok, _, _, ([] ++ pa) ++ pv, ⟨[] ++ pa, pv, trodAll_append (hargs _ (fun _ _ => rfl)) (hres _ _ _), hvars _ (fun _ _ => rfl), rfl, ?_, ?_⟩, ?_⟩
    · intro b off hp
      have hp' : MemPlace.cell b off ∈ before := by rw [hps]; simpa using hp
      obtain ⟨δ, rfl⟩ := hg
      have hb : b < W.heap.size := hlt _ hp'
      rw [frozen_grow_old _ _ _ _ _ hb]
      exact hz b off hp'
    · intro ha
      have := hn ha
      rw [hps] at this
      simpa using this
    · intro p hp _
      rw [hps]
      simpa using hp

theorem own : ownKnob Try.prog.godebug = none := by kernel_rfl
end Go.Proofs.Ytccadhfeiehmbaa
/- How the reader reads bytes. -/
namespace Go.Proofs.Ytccadhfeiehmbaa
set_option linter.unusedVariables false
set_option linter.unusedSimpArgs false
open Go.ChangeShapes Go.WideShapes Go.ChangeAt Go.RowKit
theorem cells8 : Try.prog.cellsOf 5 = 1 := by kernel_rfl
theorem u8_nat {a : Int} (h : (Lit.int .u8 a).wf = true) : ∃ n : Nat, a = n ∧ n < 256 := by
  have hx := bounds_u8 h
  exact ⟨a.toNat, by omega, by omega⟩
theorem u32_nat {a : Int} (h : (Lit.int .u32 a).wf = true) : ∃ n : Nat, a = n ∧ n < 4294967296 := by
  have hx := bounds_u32 h
  exact ⟨a.toNat, by omega, by omega⟩
theorem wf_u8 (n : Nat) (h : n < 256) : (Lit.int .u8 (n : Int)).wf = true := by
  simp [Lit.wf, IntKind.min, IntKind.max, IntKind.signed, IntKind.bits]; omega

theorem bytes_of_trod {H : Type} {enc : TypeId × Value → H} {W : World} {base m : Nat} {sp : Nat → Bool} {cs : List Value} {xs : List (DataW H × List MemPlace)} (hl : xs.length = cs.length)
    (h : ∀ (i : Nat), i < cs.length → DataW.trod enc Try.prog W base sp true m 5 ((cs.drop i).take 1) = xs[i]?) :
    ∃ l : List Nat, cs = l.map (fun (c : Nat) => Value.int .u8 (c : Int)) ∧ (∀ c ∈ l, c < 256) ∧ xs = l.map (fun (c : Nat) => (.lit (.int .u8 (c : Int)), [])) := by
  induction cs generalizing xs with
  | nil =>
    have : xs = [] := List.length_eq_zero_iff.1 hl
    exact ⟨[], rfl, by simp, by rw [this]; rfl⟩
  | cons c cs ih =>
    cases xs with
    | nil => simp at hl
    | cons x xs =>
      have h0 := h 0 (by simp)
      simp only [List.drop_zero, List.take_succ_cons, List.take_zero, List.getElem?_cons_zero] at h0
      obtain ⟨n, e1, e2, wf⟩ := DataW.trod_int Try.underlying5 h0
      simp only [List.cons.injEq, and_true] at e1
      obtain ⟨k, rfl, hk⟩ := u8_nat wf
      obtain ⟨l, hl1, hl2, hl3⟩ := ih (xs := xs) (by simpa using hl) fun i hi => by
        have := h (i + 1) (by simp; omega)
        simpa using this
      exact ⟨k :: l, by rw [e1, hl1]; rfl, by simp [hk]; exact hl2, by rw [e2, hl3]; rfl⟩
end Go.Proofs.Ytccadhfeiehmbaa
/- How the reader reads a number of 64 bits. -/
namespace Go.Proofs.Ytccadhfeiehmbaa
set_option linter.unusedVariables false
set_option linter.unusedSimpArgs false
open Go.ChangeShapes Go.WideShapes Go.ChangeAt Go.RowKit
theorem u64_nat {a : Int} (h : (Lit.int .u64 a).wf = true) : ∃ n : Nat, a = n ∧ n < 18446744073709551616 := by
  have hx : 0 ≤ a ∧ a ≤ 18446744073709551615 := by simpa [Lit.wf, IntKind.min, IntKind.max, IntKind.signed, IntKind.bits] using h
  exact ⟨a.toNat, by omega, by omega⟩

end Go.Proofs.Ytccadhfeiehmbaa
/- What is handed over reads behind a call as it did, where the call has laid new memory alone. No program's function in sight. -/
namespace Go.Proofs.Ytccadhfeiehmbaa
set_option linter.unusedVariables false
set_option linter.unusedSimpArgs false
open Go.ChangeShapes Go.WideShapes Go.ChangeAt Go.RowKit
set_option maxRecDepth 100000
theorem laidOut : laidOutB Try.prog = true := by kernel_rfl
theorem trodAll_stays {H : Type} {enc : TypeId × Value → H} {W W' : World} {sp : Nat → Bool} (hg : Grew W W') : ∀ (ts : List TypeId) {vs : List Value} {ds : List (DataW H)} {ps : List MemPlace},
    (∀ t ∈ ts, Try.prog.readableRec t = true ∧ t < Try.prog.types.size) → DataW.TrodAll enc Try.prog W 0 (fun _ => true) true ts vs ds ps → (∀ x ∈ ps, x.block < W.heap.size) → (∀ x ∈ ps, sp x.block = true) →
    DataW.TrodAll enc Try.prog W' 0 sp true ts vs ds ps
  | [], vs, ds, ps, _, h, _, _ => by
    obtain ⟨rfl, rfl, rfl⟩ := trodAll_nil h
    exact trodAll_mk0
  | t :: ts, vs, ds, ps, ht, h, hl, hs => by
    obtain ⟨v, vs', d, ds', p, q, rfl, rfl, rfl, h0, h1⟩ := trodAll_cons h
    have e := ht t (by simp)
    have hb := hg.below
    refine trodAll_cons_mk (WideElems.Trod_stays laidOut e.1 e.2 h0 (fun x hx => hb.same (hl x (by simp [hx]))) (fun x hx => hs x (by simp [hx]))) ?_
    exact trodAll_stays hg ts (fun t h => ht t (by simp [h])) h1 (fun x hx => hl x (by simp [hx])) (fun x hx => hs x (by simp [hx]))
theorem types_ok (ts : List TypeId) (h : (ts.all fun t => Try.prog.readableRec t && decide (t < Try.prog.types.size)) = true) : ∀ t ∈ ts, Try.prog.readableRec t = true ∧ t < Try.prog.types.size := fun t ht => by
  have := List.all_eq_true.1 h t ht
  simpa [Bool.and_eq_true, decide_eq_true_eq] using this
/-- Behind a call that leaves what was as it was. -/
theorem post_of_stays {H : Type} {enc : TypeId × Value → H} {f : Func} {s : ChangeSpec} {apart fresh handsOn again : Bool} {W W' : World} {args : Array Value} {v : Value} {ds gs : List (DataW H)} {pa : List MemPlace}
    (hW : DataW.Whole enc Try.prog f.params.toList s.vars apart W args.toList ds gs pa) (hvars0 : s.vars = [])
    (hA : DataW.TrodAll enc Try.prog W 0 (fun _ => true) true f.params.toList args.toList ds pa)
    (hty : ∀ t ∈ f.params.toList, Try.prog.readableRec t = true ∧ t < Try.prog.types.size)
    (hargs : (s.fn H (ds ++ gs)).args = ds) (hvarsd : (s.fn H (ds ++ gs)).vars = [])
    (hres : ∀ (b : Nat) (sp : Nat → Bool) (hd : Bool), DataW.TrodAll enc Try.prog W' b sp hd f.resultTypes.toList (v.resultList f.resultTypes.size) (s.fn H (ds ++ gs)).results [])
    (hg : Grew W W')
    (hok : ∀ (j : Nat) (t : TypeId) (r : Value), f.resultTypes[j]? = some t → (v.resultList f.resultTypes.size)[j]? = some r → Value.okWide Try.prog W' .any 0 t r) :
    s.post enc Try.prog f apart fresh handsOn again W args v W' :=
  post_of_old (pa := pa) (pv := []) hW hres (fun sp hsp => by rw [hargs]; exact trodAll_stays hg _ hty hA hW.lt hsp) (fun sp hsp => by rw [hvarsd, hvars0]; exact rfl) (by simp) hg hok
end Go.Proofs.Ytccadhfeiehmbaa
/- An argument of bytes, opened. -/
namespace Go.Proofs.Ytccadhfeiehmbaa
set_option linter.unusedVariables false
set_option linter.unusedSimpArgs false
open Go.ChangeShapes Go.WideShapes Go.ChangeAt Go.RowKit
theorem cellsU8 : Try.prog.cellsOf 5 = 1 := by kernel_rfl
/-- Cells of bytes, as numbers. -/
theorem bytes_nat : ∀ (zs : List Int), (∀ n ∈ zs, (Lit.int .u8 n).wf = true) → ∃ l : List Nat, zs = l.map (fun (c : Nat) => (c : Int)) ∧ ∀ c ∈ l, c < 256
  | [], _ => ⟨[], rfl, by simp⟩
  | z :: zs, h => by
    obtain ⟨n, rfl, hn⟩ := u8_nat (h z (by simp))
    obtain ⟨l, rfl, hl⟩ := bytes_nat zs (fun n hn => h n (by simp [hn]))
    exact ⟨n :: l, rfl, by intro c hc; rcases List.mem_cons.1 hc with rfl | hc; exact hn; exact hl c hc⟩
theorem plain_of_cell {w : World} {a : Addr} {v : Value} (h : w.cell? a = some v) : a = ⟨a.block, a.off, none⟩ ∧ a.block < w.heap.size := by
  refine ⟨?_, World.block_lt_of_cell? w a h⟩
  cases a with
  | mk b o s =>
    cases s with
    | none => rfl
    | some s =>
      exfalso
      simp only [World.cell?] at h
      split at h <;> simp at h
/-- What is shown by cells at whatever address. -/
theorem shows_of_cells {w : World} {a : Addr} {c : Nat} {xs : List Value} (h : ∀ j u, xs[j]? = some u → w.cell? (a.add j) = some u) : Shows w (.slice (some a) xs.length c) xs := by
  cases hx : xs with
  | nil => exact .inr ⟨_, _, rfl, rfl⟩
  | cons x r =>
    rw [hx] at h
    have h0 := h 0 x rfl
    have ha : a.add 0 = a := by unfold Addr.add; simp
    rw [ha] at h0
    obtain ⟨e, hb⟩ := plain_of_cell h0
    refine .inl ⟨a.block, a.off, c, by rw [e], hb, fun j u hj => ?_⟩
    have := h j u hj
    rw [e, add_off] at this
    exact this
theorem open_bytes {H : Type} {enc : TypeId × Value → H} {W : World} {v : Value} {d : DataW H} {p : List MemPlace} (h : DataW.Trod enc Try.prog W 0 (fun _ => true) true 23 v d p) (hv : v.cells = #[v]) :
    ∃ (q : Option Addr) (c : Nat) (l : List Nat), v = .slice q l.length c ∧ (∀ x ∈ l, x < 256) ∧ l.length ≤ maxLen ∧ Shows W (.slice q l.length c) (bys l) := by
  obtain ⟨fuel, hf⟩ := h
  rw [hv] at hf
  rcases open_ints Try.underlying23 Try.underlying5 cellsU8 hf with ⟨hcs, _⟩ | ⟨a, len, cap, zs, hcs, _, hl, hm, hz, _, hcell, hwz⟩
  · obtain rfl : v = .slice none 0 0 := by simpa using hcs
    exact ⟨none, 0, [], rfl, by simp, by simp, .inr ⟨_, _, rfl, rfl⟩⟩
  · obtain rfl : v = .slice (some a) len cap := by simpa using hcs
    simp only [if_true] at hz
    obtain ⟨l, rfl, hlb⟩ := bytes_nat zs hwz
    have hl2 : (l.take len).length = len := by rw [List.length_take]; rw [List.length_map] at hz; omega
    refine ⟨some a, cap, l.take len, by rw [hl2], fun x hx => hlb x (List.mem_of_mem_take hx), by omega, ?_⟩
    have := shows_of_cells (w := W) (a := a) (c := cap) (xs := bys (l.take len)) (fun j u hj => by
      have hj2 : j < (l.take len).length := by
        have := (List.getElem?_eq_some_iff.1 hj).1
        rwa [bys_len] at this
      rw [hl2] at hj2
      rw [List.length_map] at hz hcell
      rw [hcell j (by omega)]
      have hj3 : j < l.length := by omega
      simp only [bys, List.getElem?_map, List.getElem?_take, if_pos hj2, List.getElem?_eq_getElem hj3, Option.map_some, Option.some.injEq] at hj
      rw [← hj]
      simp [List.getD, hj3])
    rwa [bys_len] at this
end Go.Proofs.Ytccadhfeiehmbaa
/- An argument of slices of bytes, opened. -/
namespace Go.Proofs.Ytccadhfeiehmbaa
set_option linter.unusedVariables false
set_option linter.unusedSimpArgs false
open Go.ChangeShapes Go.WideShapes Go.ChangeAt Go.RowKit
set_option maxRecDepth 100000
/-- The slice shows slices of these bytes. -/
def RowsAt (w : World) (v : Value) (ls : List (List Nat)) : Prop := ∃ vs : List Value, vs.length = ls.length ∧ Shows w v vs ∧ ∀ k, k < ls.length → Shows w (vs.getD k undef) (bys (ls.getD k []))
theorem RowsAt.grew {w w' : World} {v : Value} {ls : List (List Nat)} (h : RowsAt w v ls) (g : Grew w w') : RowsAt w' v ls := by
  obtain ⟨vs, h1, h2, h3⟩ := h
  exact ⟨vs, h1, h2.grew g, fun k hk => (h3 k hk).grew g⟩
theorem cellsBs : Try.prog.cellsOf 23 = 1 := by kernel_rfl
theorem open_rows {H : Type} {enc : TypeId × Value → H} {W : World} {v : Value} {d : DataW H} {p : List MemPlace} (h : DataW.Trod enc Try.prog W 0 (fun _ => true) true 29 v d p) (hv : v.cells = #[v]) :
    ∃ (q : Option Addr) (c : Nat) (ls : List (List Nat)), v = .slice q ls.length c ∧ (∀ l ∈ ls, ∀ x ∈ l, x < 256) ∧ (ls.length ≤ maxLen ∧ ∀ l ∈ ls, l.length ≤ maxLen) ∧ RowsAt W (.slice q ls.length c) ls := by
  obtain ⟨fuel, hf⟩ := h
  rw [hv] at hf
  rcases Deep.open_int_rows Try.underlying29 Try.underlying23 Try.underlying5 cellsBs cellsU8 hf with ⟨hcs, _⟩ | ⟨a, len, cap, A, L, C, Z, hcs, _, hl, hm, _, hr⟩
  · obtain rfl : v = .slice none 0 0 := by simpa using hcs
    exact ⟨none, 0, [], rfl, by simp, ⟨by simp, by simp⟩, [], rfl, .inr ⟨_, _, rfl, rfl⟩, by simp⟩
  · obtain rfl : v = .slice (some a) len cap := by simpa using hcs
    have each : ∀ r, r < cap → ∃ l : List Nat, l.length = L r ∧ (∀ x ∈ l, x < 256) ∧ l.length ≤ maxLen ∧ Shows W (.slice (A r) (L r) (C r)) (bys l) := fun r hr' => by
      obtain ⟨_, h1, h2, h3, h4, h5, h6⟩ := hr r hr'
      obtain ⟨l, hlz, hlb⟩ := bytes_nat (Z r) h4
      have hll : l.length = C r := by rw [← h3, hlz, List.length_map]
      have htl : (l.take (L r)).length = L r := by rw [List.length_take]; omega
      refine ⟨l.take (L r), htl, fun x hx => hlb x (List.mem_of_mem_take hx), by omega, ?_⟩
      cases hA : A r with
      | none =>
        have hc0 := h5 hA
        have hl0 : L r = 0 := by omega
        rw [hl0, List.take_zero]
        exact .inr ⟨_, _, rfl, rfl⟩
      | some a' =>
        obtain ⟨_, hcell⟩ := h6 a' hA
        have := shows_of_cells (w := W) (a := a') (c := C r) (xs := bys (l.take (L r))) (fun j u hj => by
          have hj2 : j < (l.take (L r)).length := by
            have := (List.getElem?_eq_some_iff.1 hj).1
            rwa [bys_len] at this
          rw [htl] at hj2
          rw [hcell j (by omega), hlz]
          have hj3 : j < l.length := by omega
          simp only [bys, List.getElem?_map, List.getElem?_take, if_pos hj2, List.getElem?_eq_getElem hj3, Option.map_some, Option.some.injEq] at hj
          rw [← hj]
          simp [List.getD, hj3])
        rwa [bys_len, htl] at this
    have pick : ∀ n, n ≤ len → ∃ ls : List (List Nat), ls.length = n ∧ ∀ r, r < n → (ls.getD r []).length = L r ∧ (∀ x ∈ ls.getD r [], x < 256) ∧ (ls.getD r []).length ≤ maxLen ∧ Shows W (.slice (A r) (L r) (C r)) (bys (ls.getD r [])) := by
      intro n
      induction n with
      | zero => exact fun _ => ⟨[], rfl, by omega⟩
      | succ n ih =>
        intro hn
        obtain ⟨ls, h1, h2⟩ := ih (by omega)
        obtain ⟨l, h3⟩ := each n (by omega)
        refine ⟨ls ++ [l], by simp [h1], fun r hr' => ?_⟩
        rcases Nat.lt_or_ge r n with h | h
        · have : (ls ++ [l]).getD r [] = ls.getD r [] := by simp [List.getD, List.getElem?_append_left (show r < ls.length by omega)]
          rw [this]; exact h2 r h
        · obtain rfl : r = n := by omega
          have : (ls ++ [l]).getD r [] = l := by simp [List.getD, ← h1]
          rw [this]; exact h3
    obtain ⟨ls, hls, hr2⟩ := pick len (Nat.le_refl _)
    have hmem : ∀ l ∈ ls, ∃ r, r < len ∧ ls.getD r [] = l := fun l hl' => by
      obtain ⟨r, hr', e⟩ := List.getElem_of_mem hl'
      exact ⟨r, by omega, by simp [List.getD, hr', e]⟩
    refine ⟨some a, cap, ls, by rw [hls], fun l hl' => ?_, ⟨by omega, fun l hl' => ?_⟩, (List.range len).map (fun r => .slice (A r) (L r) (C r)), by simp [hls], ?_, fun k hk => ?_⟩
    · obtain ⟨r, hr', rfl⟩ := hmem l hl'
      exact (hr2 r hr').2.1
    · obtain ⟨r, hr', rfl⟩ := hmem l hl'
      exact (hr2 r hr').2.2.1
    · have := shows_of_cells (w := W) (a := a) (c := cap) (xs := (List.range len).map (fun r => Value.slice (A r) (L r) (C r))) (fun j u hj => by
        have hj2 : j < len := by have := (List.getElem?_eq_some_iff.1 hj).1; simpa using this
        rw [(hr j (by omega)).1]
        simpa [hj2] using hj)
      rw [List.length_map, List.length_range] at this
      rw [hls]; exact this
    · rw [hls] at hk
      have : ((List.range len).map (fun r => Value.slice (A r) (L r) (C r))).getD k undef = .slice (A k) (L k) (C k) := by simp [List.getD, hk]
      rw [this]
      exact (hr2 k hk).2.2.2
end Go.Proofs.Ytccadhfeiehmbaa
/- Rows of the call's own whose elements are of many cells each. No program in sight. -/
namespace Go
set_option linter.unusedVariables false
set_option linter.unusedSimpArgs false
open Go.RowKit
section
variable {α : Type} {k : Nat} {f : α → List Value}
theorem flat_get (hf : ∀ x, (f x).length = k) : ∀ (ls : List α) (j : Nat) (x : α), ls[j]? = some x → ∀ i, i < k → (ls.flatMap f)[j * k + i]? = (f x)[i]?
  | [], _, _, h, _, _ => by simp at h
  | y :: ls, 0, x, h, i, hi => by
    simp only [List.getElem?_cons_zero, Option.some.injEq] at h
    subst h
    rw [List.flatMap_cons, Nat.zero_mul, Nat.zero_add, List.getElem?_append_left (by rw [hf]; exact hi)]
  | y :: ls, j + 1, x, h, i, hi => by
    rw [List.getElem?_cons_succ] at h
    rw [List.flatMap_cons, List.getElem?_append_right (by rw [hf, Nat.succ_mul]; omega), hf, show (j + 1) * k + i - k = j * k + i by rw [Nat.succ_mul]; omega]
    exact flat_get hf ls j x h i hi
theorem flat_len (hf : ∀ x, (f x).length = k) : ∀ ls : List α, (ls.flatMap f).length = ls.length * k
  | [] => by simp
  | y :: ls => by rw [List.flatMap_cons, List.length_append, hf, flat_len hf ls, List.length_cons, Nat.succ_mul]; omega
/-- The slice shows these. -/
def ShowsE (k : Nat) (f : α → List Value) (w : World) (v : Value) (ls : List α) : Prop :=
  (∃ b o c, v = .slice (some ⟨b, o, none⟩) ls.length c ∧ ls.length ≤ c ∧ b < w.heap.size ∧ ∀ j x, ls[j]? = some x → w.rangeAt b (o + j * k) (f x)) ∨ (∃ p c, v = .slice p 0 c ∧ ls = [])
theorem rangeAt_grew {w w' : World} {b o : Nat} {cs : List Value} (h : w.rangeAt b o cs) (g : Grew w w') : w'.rangeAt b o cs := fun j v hj => g.cell (h j v hj)
theorem ShowsE.grew {w w' : World} {v : Value} {ls : List α} (h : ShowsE k f w v ls) (g : Grew w w') : ShowsE k f w' v ls := by
  rcases h with ⟨b, o, c, rfl, hc, hb, h⟩ | h
  · exact .inl ⟨b, o, c, rfl, hc, Nat.lt_of_lt_of_le hb g.size, fun j x hj => rangeAt_grew (h j x hj) g⟩
  · exact .inr h
def OwnE (k : Nat) (f : α → List Value) (w : World) (base : Nat) (e : TypeId) (v : Value) (ls : List α) : Prop := w.ownsRow base e k v ls.length (ls.flatMap f)
theorem OwnE.nil (w : World) (base : Nat) (e : TypeId) : OwnE k f w base e (.slice none 0 0) [] := World.ownsRow_nil w base e k
theorem OwnE.range (hf : ∀ x, (f x).length = k) {w : World} {base : Nat} {e : TypeId} {g n cap : Nat} {ls : List α} (h : OwnE k f w base e (.slice (some ⟨g, 0, none⟩) n cap) ls) (j : Nat) (x : α) (hj : ls[j]? = some x) : w.rangeAt g (j * k) (f x) := by
  intro i v hi
  have hik : i < k := by have := (List.getElem?_eq_some_iff.1 hi).1; rwa [hf] at this
  have h1 := World.ownsRow.cells h (g := g) rfl (j * k + i) v (by rw [flat_get hf ls j x hj i hik]; exact hi)
  rw [add_off, Nat.zero_add] at h1
  exact h1
theorem OwnE.form {w : World} {base : Nat} {e : TypeId} {v : Value} {ls : List α} (h : OwnE k f w base e v ls) : (v = .slice none 0 0 ∧ ls = []) ∨ ∃ g cap, v = .slice (some ⟨g, 0, none⟩) ls.length cap ∧ base ≤ g ∧ g < w.heap.size ∧ ls.length ≤ cap := by
  rcases h.2 with ⟨rfl, h0⟩ | ⟨g, cap, cur, rfl, hb, hg, hn, hm, hs, ht⟩
  · exact .inl ⟨rfl, List.length_eq_zero_iff.1 h0⟩
  · exact .inr ⟨g, cap, rfl, hb, (Array.getElem?_eq_some_iff.1 hg).1, hn⟩
theorem OwnE.shows (hf : ∀ x, (f x).length = k) {w : World} {base : Nat} {e : TypeId} {v : Value} {ls : List α} (h : OwnE k f w base e v ls) : ShowsE k f w v ls := by
  rcases h.form with ⟨rfl, rfl⟩ | ⟨g, cap, rfl, hb, hg, hc⟩
  · exact .inr ⟨_, _, rfl, rfl⟩
  · exact .inl ⟨g, 0, cap, rfl, hc, hg, fun j x hj => by rw [Nat.zero_add]; exact OwnE.range hf h j x hj⟩
theorem OwnE.grew {w w' : World} {base : Nat} {e : TypeId} {v : Value} {ls : List α} (h : OwnE k f w base e v ls) (g : Grew w w') : OwnE k f w' base e v ls := by
  refine ⟨h.1, ?_⟩
  rcases h.2 with hn | ⟨b, cap, cur, rfl, hb, hg, rest⟩
  · exact .inl hn
  · exact .inr ⟨b, cap, cur, rfl, hb, (g.heap (Array.getElem?_eq_some_iff.1 hg).1).trans hg, rest⟩
theorem OwnE.base {w : World} {base base' : Nat} {e : TypeId} {v : Value} {ls : List α} (h : OwnE k f w base e v ls) (hb : base' ≤ base) : OwnE k f w base' e v ls := by
  refine ⟨h.1, ?_⟩
  rcases h.2 with hn | ⟨b, cap, cur, rfl, hb', rest⟩
  · exact .inl hn
  · exact .inr ⟨b, cap, cur, rfl, Nat.le_trans hb hb', rest⟩
theorem OwnE.block {w : World} {base : Nat} {e : TypeId} {v : Value} {ls : List α} (h : OwnE k f w base e v ls) : ∀ k, v.ownBlock = some k → base ≤ k ∧ k < w.heap.size := World.ownsRow.lt h
theorem OwnE.kept {w w' : World} {base : Nat} {e : TypeId} {v : Value} {ls : List α} {row : Option Nat} (h : OwnE k f w base e v ls) (hg : w.grownBy w' row) (hne : v.ownBlock = none ∨ v.ownBlock ≠ row) : OwnE k f w' base e v ls := World.ownsRow.kept h hg hne
/-- A row that was just built. -/
theorem OwnE.made (hf : ∀ x, (f x).length = k) (w : World) (base : Nat) (e : TypeId) (ls : List α) (hb : base ≤ w.heap.size) (hl : ls.length ≤ maxLen) : OwnE k f (w.alloc (.cells (ls.flatMap f).toArray e)) base e (.slice (some ⟨w.heap.size, 0, none⟩) ls.length ls.length) ls := by
  refine ⟨flat_len hf ls, .inr ⟨w.heap.size, ls.length, _, rfl, hb, heap_alloc_new w _, Nat.le_refl _, hl, by simpa using flat_len hf ls, ?_⟩⟩
  have : (ls.flatMap f).toArray.toList = ls.flatMap f := rfl
  rw [this, ← flat_len hf ls, List.take_length]
theorem showsE_flat (hf : ∀ x, (f x).length = k) {w : World} {b o : Nat} {ls : List α} (h : ∀ j x, ls[j]? = some x → w.rangeAt b (o + j * k) (f x)) : ∀ j u, (ls.flatMap f)[j]? = some u → w.cell? ⟨b, o + j, none⟩ = some u := by
  intro j u hj
  have hjl := (List.getElem?_eq_some_iff.1 hj).1
  rw [flat_len hf] at hjl
  rcases Nat.eq_zero_or_pos k with rfl | hk
  · omega
  have hq : j / k < ls.length := (Nat.div_lt_iff_lt_mul hk).2 hjl
  have hx : ls[j / k]? = some ls[j / k] := List.getElem?_eq_getElem hq
  have hm : j % k < k := Nat.mod_lt _ hk
  have e1 : j / k * k + j % k = j := by rw [Nat.mul_comm]; exact Nat.div_add_mod j k
  have h1 := flat_get hf ls (j / k) _ hx (j % k) hm
  rw [e1, hj] at h1
  have h2 := h (j / k) _ hx (j % k) u h1.symm
  rwa [Nat.add_assoc, e1] at h2
/-- append, of whatever is shown. -/
theorem wpList_appendE {P : Program} {ops : Array Oper} {rest : List Oper} {o : Oper} {a : Act} {Q : Exit → Act → World → Prop} (hf : ∀ x, (f x).length = k) (hk : 0 < k) (hgd : o.guard = none) (s x : Operand) (t : TypeId)
    (ho : o.op = .call { callee := .builtin .append, args := #[s, x], argTypes := #[t, t] }) (e : TypeId) (i : TypeInfo) (z : Value) (bytes : Nat) (ht : P.underlying t = some (.slice e)) (hi : P.info? e = some i) (hz : i.zero = some z)
    (hsize : i.size = k) (hby : i.bytes = bytes) (hzs : z.cells.size = k) (h1 : ∀ x, ∀ u ∈ f x, u.oneCell' = true) (A X : World) (base : Nat) (v y : Value) (hs : a.eval s = v) (hy : a.eval x = y) (xs news : List α) (hg : Grew A X) (hA : A.heap.size ≤ base) (hX : base ≤ X.heap.size) (hown : OwnE k f X base e v xs) (hsh : ShowsE k f X y news)
    (h63 : xs.length + news.length ≤ maxLen) (hbytes : (xs.length + news.length) * bytes ≤ 140737488355328) (hne : 0 < news.length)
    (h : ∀ v' w', OwnE k f w' base e v' (xs ++ news) → Grew A w' → X.grownBy w' v.ownBlock → wpList P ops Q rest (a.put o.dst v') w') : wpList P ops Q (o :: rest) a X := by
  have hblock := hown.block
  rcases hsh with ⟨b, of, c, rfl, hc, hb, hr⟩ | ⟨p, c, rfl, rfl⟩
  case inr => simp at hne
  obtain ⟨v', w', hrun, h2, h3, _⟩ := run_append_own (P := P) X base t o.type e i z k bytes ht hi hz hsize hby hzs hk v xs.length (xs.flatMap f) hown ⟨b, of, none⟩ news.length c (news.flatMap f) (flat_len hf news) (fun j u hj => by rw [add_off]; exact showsE_flat hf hr j u hj)
    (fun u hu => by obtain ⟨x, _, hx⟩ := List.mem_flatMap.1 hu; exact h1 x u hx) h63 hbytes hX
  refine Lib.wpList_append_run X hgd s x t t ho v _ hs hy v' w' hrun (h v' w' ?_ (hg.grown h3 fun j hj => Nat.le_trans hA (hblock j hj).1) h3)
  unfold OwnE
  rw [List.length_append, List.flatMap_append]
  exact h2
theorem showsE_one (hf : ∀ x, (f x).length = k) (X : World) (y : α) (e : TypeId) (c : Nat) (hc : 1 ≤ c) : ShowsE k f (X.alloc (.cells (f y).toArray e)) (.slice (some ⟨X.heap.size, 0, none⟩) 1 c) [y] := by
  refine .inl ⟨_, _, _, rfl, hc, by simp, fun j u hj => ?_⟩
  cases j with
  | zero =>
    simp only [List.getElem?_cons_zero, Option.some.injEq] at hj
    subst hj
    intro i v hi
    unfold World.cell?
    rw [show (X.alloc (.cells (f y).toArray e)).heap[X.heap.size]? = some (.cells (f y).toArray e (0, 0)) from heap_alloc_new X _]
    simpa using hi
  | succ j => simp at hj
theorem showsE_one_g (hf : ∀ x, (f x).length = k) (X : World) (δ : Junk) (y : α) (e : TypeId) (c : Nat) (hc : 1 ≤ c) : ShowsE k f ((X.grow δ).alloc (.cells (f y).toArray e)) (.slice (some ⟨X.heap.size + δ.n, 0, none⟩) 1 c) [y] := by
  have := showsE_one hf (X.grow δ) y e c hc
  rwa [size_grow] at this
end
end Go
/- append, of whatever is shown, nothing too; a step whose guard holds. No program in sight. -/
namespace Go
set_option linter.unusedVariables false
set_option linter.unusedSimpArgs false
open Go.RowKit
set_option maxRecDepth 100000
theorem wpList_unguard {P : Program} {ops : Array Oper} {Q : Exit → Act → World → Prop} {d : Option Tmp} {op : Op} {t : TypeId} {p : String} {af : Array Edge} {j : Nat} {b : Bool} {rest : List Oper} {a : Act} {w : World}
    (hw : yielded ops a.tmps j = some b) (h : wpList P ops Q (⟨d, op, t, p, af, none⟩ :: rest) a w) : wpList P ops Q (⟨d, op, t, p, af, some (j, b)⟩ :: rest) a w := by
  unfold wpList at h ⊢
  have h1 : Region.wanted ⟨d, op, t, p, af, some (j, b)⟩ (yielded ops a.tmps) = true := by simp [Region.wanted, hw]
  have h2 : Region.wanted ⟨d, op, t, p, af, none⟩ (yielded ops a.tmps) = true := rfl
  rw [if_pos h1]
  rw [if_pos h2] at h
  exact h
theorem _root_.Go.Calls.pure_of_g5 {P : Program} {f : FuncId} {args : Array Value} {X : World} {a b c e n : Junk} {v : Value}
    (h : Calls P f args (X.grow ⟨a.objs ++ (b.objs ++ (c.objs ++ (e.objs ++ n.objs))), n.drawn⟩) fun e' w' => e' = .returned v ∧ Grew (X.grow ⟨a.objs ++ (b.objs ++ (c.objs ++ (e.objs ++ n.objs))), n.drawn⟩) w') :
    Calls P f args (X.grow ⟨a.objs ++ (b.objs ++ (c.objs ++ (e.objs ++ n.objs))), n.drawn⟩) fun e' w'' => e' = .returned v ∧ ∃ m : Junk, w'' = X.grow ⟨a.objs ++ (b.objs ++ (c.objs ++ (e.objs ++ m.objs))), m.drawn⟩ :=
  h.mono fun _ _ ⟨he, hm⟩ => ⟨he, by obtain ⟨m, rfl⟩ := hm; exact ⟨⟨n.objs ++ m.objs, m.drawn⟩, by simp [grow_grow, Array.append_assoc]⟩⟩
section
variable {α : Type} {k : Nat} {f : α → List Value}
/-- append, of whatever is shown, nothing too. -/
theorem wpList_appendE2 {P : Program} {ops : Array Oper} {rest : List Oper} {o : Oper} {a : Act} {Q : Exit → Act → World → Prop} (hf : ∀ x, (f x).length = k) (hk : 0 < k) (hgd : o.guard = none) (s x : Operand) (t : TypeId)
    (ho : o.op = .call { callee := .builtin .append, args := #[s, x], argTypes := #[t, t] }) (e : TypeId) (i : TypeInfo) (z : Value) (bytes : Nat) (ht : P.underlying t = some (.slice e)) (hi : P.info? e = some i) (hz : i.zero = some z)
    (hsize : i.size = k) (hby : i.bytes = bytes) (hzs : z.cells.size = k) (h1 : ∀ x, ∀ u ∈ f x, u.oneCell' = true) (A X : World) (base : Nat) (v y : Value) (hs : a.eval s = v) (hy : a.eval x = y) (xs news : List α) (hg : Grew A X) (hA : A.heap.size ≤ base) (hX : base ≤ X.heap.size) (hown : OwnE k f X base e v xs) (hsh : ShowsE k f X y news)
    (h63 : xs.length + news.length ≤ maxLen) (hbytes : (xs.length + news.length) * bytes ≤ 140737488355328)
    (h : ∀ v' w', OwnE k f w' base e v' (xs ++ news) → Grew A w' → wpList P ops Q rest (a.put o.dst v') w') : wpList P ops Q (o :: rest) a X := by
  rcases hsh with ⟨b, of, c, rfl, hc, hb, hr⟩ | ⟨p, c, rfl, rfl⟩
  · rcases Nat.eq_zero_or_pos news.length with h0 | hp
    · obtain rfl : news = [] := List.length_eq_zero_iff.1 h0
      have hblock := hown.block
      obtain ⟨v', w', hrun, h2, h3, _⟩ := run_append_own (P := P) X base t o.type e i z k bytes ht hi hz hsize hby hzs hk v xs.length (xs.flatMap f) hown ⟨b, of, none⟩ 0 c [] (by simp) (by simp) (by simp) h63 hbytes hX
      refine Lib.wpList_append_run X hgd s x t t ho v _ hs hy v' w' hrun (h v' w' ?_ (hg.grown h3 fun j hj => Nat.le_trans hA (hblock j hj).1))
      rw [List.append_nil] at h2 ⊢
      exact h2
    · exact wpList_appendE hf hk hgd s x t ho e i z bytes ht hi hz hsize hby hzs h1 A X base v _ hs hy xs news hg hA hX hown (.inl ⟨b, of, c, rfl, hc, hb, hr⟩) h63 hbytes hp fun v' w' a b _ => h v' w' a b
  · have hblock := hown.block
    cases p with
    | some ad =>
      obtain ⟨v', w', hrun, h2, h3, _⟩ := run_append_own (P := P) X base t o.type e i z k bytes ht hi hz hsize hby hzs hk v xs.length (xs.flatMap f) hown ad 0 c [] (by simp) (by simp) (by simp) h63 hbytes hX
      refine Lib.wpList_append_run X hgd s x t t ho v _ hs hy v' w' hrun (h v' w' ?_ (hg.grown h3 fun j hj => Nat.le_trans hA (hblock j hj).1))
      rw [List.append_nil] at h2 ⊢
      exact h2
    | none =>
      have hrun : (Builtin.append_ #[t, t] o.type #[v, .slice none 0 c]).run P X = .ok v X := by
        rcases hown.2 with ⟨rfl, h0⟩ | ⟨g, cap, cur, rfl, hb, hg, hn, hm, hs, hq⟩
        · simp [Builtin.append_, run_underlying ht, sizeOf, typeInfo, zeroValue, hi, hz, Question.forced, run_firstCells_none, Builtin.lenOf]
        · have hcl : ¬ (cap < xs.length) := by omega
          simp [Builtin.append_, run_underlying ht, sizeOf, typeInfo, zeroValue, hi, hz, Question.forced, run_firstCells_none, Builtin.lenOf, hcl, hn, storeCells]
      refine Lib.wpList_append_run X hgd s x t t ho v _ hs hy v X hrun (h v X ?_ hg)
      rw [List.append_nil]
      exact hown
end
end Go
namespace Go.Proofs.Ytccadhfeiehmbaa
end Go.Proofs.Ytccadhfeiehmbaa
/- A slice of zeros, made; what a new block shows. -/
namespace Go.Proofs.Ytccadhfeiehmbaa
set_option linter.unusedVariables false
set_option linter.unusedSimpArgs false
open Go.RowKit
set_option maxRecDepth 100000
def zeros (n : Nat) : List Nat := List.replicate n 0
theorem zeros_len (n : Nat) : (zeros n).length = n := by simp [zeros]
@[go_sem] theorem make_b (n : Nat) (hn : n ≤ 1099511627776) (w : World) : (Instr.makeSlice 23 (.int .i64 (n : Int)) (.int .i64 (n : Int))).run Try.prog w = .ok (.slice (some ⟨w.heap.size, 0, none⟩) n n) (w.alloc (.cells (bys (zeros n)).toArray 5)) := by
  obtain ⟨i, hi, hz, hsz, hby⟩ := info_b
  have h := run_make (P := Try.prog) w 23 5 i (.int .u8 0) under_bs hi hz .i64 .i64 n n (by omega) (by omega) (by rw [hby]; omega) (by omega)
  rw [h, hsz]
  simp only [Int.toNat_natCast]
  congr 2
  congr 1
  apply Array.ext'
  simp only [madeCells, Value.cells, bys, zeros, Nat.mul_one, List.map_replicate]
  apply List.ext_getElem
  · simp
  · intro k h1 h2
    simp [Nat.mod_one]
theorem shows_alloc (w : World) (xs : List Value) (t : TypeId) (c : Nat) : Shows (w.alloc (.cells xs.toArray t)) (.slice (some ⟨w.heap.size, 0, none⟩) xs.length c) xs := by
  refine .inl ⟨_, _, _, rfl, by simp, fun j u hj => ?_⟩
  rw [cell_rowAt]
  simp [go_sem, hj]
end Go.Proofs.Ytccadhfeiehmbaa
/- bin.Put. -/
namespace Go.Proofs.Ytccadhfeiehmbaa
set_option linter.unusedVariables false
set_option linter.unusedSimpArgs false
open Go.RowKit
set_option maxRecDepth 100000
/-- A number's bytes, the greatest first. -/
def putL (n size : Nat) : List Nat := (List.range size).map fun i => n / 256 ^ (size - 1 - i) % 256
theorem putL_len (n size : Nat) : (putL n size).length = size := by simp [putL]
theorem putL_lt (n size : Nat) : ∀ c ∈ putL n size, c < 256 := by
  intro c hc
  obtain ⟨i, _, rfl⟩ := List.mem_map.1 hc
  exact Nat.mod_lt _ (by omega)
/-- .. behind 'k' steps. -/
def putK (n size k : Nat) : List Nat := (List.range size).map fun i => if size ≤ i + k then n / 256 ^ (size - 1 - i) % 256 else 0
theorem putK_len (n size k : Nat) : (putK n size k).length = size := by simp [putK]
theorem putK_0 (n size : Nat) : putK n size 0 = zeros size := by
  unfold putK zeros
  apply List.ext_getElem
  · simp
  · intro i h1 h2
    simp at h1
    simp
    omega
theorem putK_all (n size : Nat) : putK n size size = putL n size := by
  unfold putK putL
  apply List.map_congr_left
  intro i hi
  rw [if_pos (by omega)]
theorem putK_step (n size k : Nat) (hk : k < size) : (putK n size k).set (size - 1 - k) (n / 256 ^ k % 256) = putK n size (k + 1) := by
  apply List.ext_getElem
  · simp [putK_len]
  · intro i h1 h2
    rw [List.length_set, putK_len] at h1
    rw [List.getElem_set]
    simp only [putK, List.getElem_map, List.getElem_range]
    by_cases he : size - 1 - k = i
    · rw [if_pos he, if_pos (by omega), show size - 1 - i = k by omega]
    · rw [if_neg he]
      by_cases h3 : size ≤ i + k
      · rw [if_pos h3, if_pos (by omega)]
      · rw [if_neg h3, if_neg (by omega)]
theorem bys_set (l : List Nat) (i x : Nat) : (bys l).set i (.int .u8 (x : Int)) = bys (l.set i x) := by simp [bys, List.map_set]
set_option maxRecDepth 100000 in
set_option maxHeartbeats 3200000 in
theorem put_w (n size : Nat) (hn : n < 18446744073709551616) (hs : size ≤ 8) (w : World) :
    Calls Try.prog 6 #[.int .u64 (n : Int), .int .i64 (size : Int)] w fun e w' => ∃ cap, e = .returned (.slice (some ⟨w.heap.size, 0, none⟩) size cap) ∧ OwnR w' w.heap.size 5 (.slice (some ⟨w.heap.size, 0, none⟩) size cap) (bys (putL n size)) ∧ Grew w w' := by
  have hsI : (size : Int) ≤ 8 := by omega
  have hs2 : size ≤ 1099511627776 := by omega
  go_enter Try.func6, Try.ntmps6
  go_wp2
  have o0 := own_alloc w w.heap.size 5 (bys (zeros size)) (Nat.le_refl _) (by rw [bys_len, zeros_len]; simp [maxLen]; omega)
  rw [← putK_0 n, bys_len, putK_len] at o0
  have hz : w.alloc (.cells (bys (zeros size)).toArray 5) = w.alloc (.cells (bys (putK n size 0)).toArray 5) := by rw [putK_0]
  rw [hz]
  have O0 := Lib.hid o0
  have G0 := Lib.hid (show Grew w (w.alloc (.cells (bys (putK n size 0)).toArray 5)) from (by repeat (first | with_reducible exact Grew.refl _ | with_reducible apply Grew.alloc | with_reducible apply Grew.grow | with_reducible apply Grew.drew | with_reducible apply Grew.drewN)))
  obtain ⟨X, hX⟩ : ∃ X, w.alloc (.cells (bys (putK n size 0)).toArray 5) = X := ⟨_, rfl⟩
  rw [hX] at O0 G0 ⊢
  clear o0 hz hX
  go_loopw [16] (fun i wr => ∃ k : Nat, k ≤ size ∧ i = .int .i64 k ∧ OwnR wr w.heap.size 5 (.slice (some ⟨w.heap.size, 0, none⟩) size size) (bys (putK n size k)) ∧ Grew w wr) (fun i _ => size - (intOf i).toNat)
  case atStart => exact ⟨0, by omega, rfl, O0.out, G0.out⟩
  case round =>
    obtain ⟨k, hk, rfl, ho, hg⟩ := hrel
    by_cases hks : k < size
    · have hlt : (k : Int) < (size : Int) := by omega
      have c1 := own_cell ho (size - 1 - k) (by rw [bys_len, putK_len]; omega)
      have f1 := own_frozen ho (size - 1 - k)
      have hgs : w.heap.size < wr.heap.size := (ho.block _ rfl).2
      have hidx : (size : Int) - 1 - (k : Int) = ((size - 1 - k : Nat) : Int) := by omega
      have HO := Lib.hid ho
      have HG := Lib.hid hg
      clear ho hg O0 G0
      go_wp2
      have hv : (n : Int) / 2 ^ (8 * k) % 256 = ((n / 256 ^ k % 256 : Nat) : Int) := by
        rw [show (256 : Nat) ^ k = 2 ^ (8 * k) by rw [Nat.pow_mul]]
        push_cast
        rfl
      have s1 := own_stored HO.out (size - 1 - k) (.int .u8 ((n / 256 ^ k % 256 : Nat) : Int))
      rw [bys_set, putK_step n size k hks] at s1
      rw [hv]
      exact ⟨⟨k + 1, by omega, by go_num, s1.1, HG.out.grown s1.2 (fun z hz => by cases hz; exact Nat.le_refl _)⟩, by simp only [intOf]; omega⟩
    · obtain rfl : k = size := by omega
      have hge : ¬ ((k : Int) < (k : Int)) := by omega
      rw [putK_all] at ho
      have HO := Lib.hid ho
      have HG := Lib.hid hg
      clear ho hg O0 G0 hks hk
      go_wp2
      go_ret
      exact ⟨_, rfl, HO.out, HG.out⟩
/-- Any size that is none. -/
theorem put_out (n : Nat) (size : Int) (hn : n < 18446744073709551616) (hs : size < 0 ∨ 8 < size) (w : World) : Calls Try.prog 6 #[.int .u64 (n : Int), .int .i64 size] w fun e w' => e = .returned (.slice none 0 0) ∧ Grew w w' := by
  have h : size < 0 ∨ (¬ size < 0 ∧ 8 < size) := by omega
  clear hs
  rcases h with h | ⟨h, h2⟩
  all_goals
    go_enter Try.func6, Try.ntmps6
    go_wp2
    go_ret
    exact ⟨rfl, Grew.refl _⟩
/-- The number of bytes. -/
def numL (l : List Nat) : Nat := l.foldl (fun n c => n * 256 + c) 0
theorem numL_snoc (l : List Nat) (c : Nat) : numL (l ++ [c]) = numL l * 256 + c := by simp [numL]
theorem numL_lt : ∀ (n : Nat) (l : List Nat), l.length = n → (∀ c ∈ l, c < 256) → numL l < 256 ^ n
  | 0, l, hl, _ => by
    obtain rfl : l = [] := List.length_eq_zero_iff.1 hl
    simp [numL]
  | n + 1, l, hl, h => by
    obtain ⟨l', c, rfl⟩ : ∃ l' c, l = l' ++ [c] := ⟨l.dropLast, l.getLast (by rintro rfl; simp at hl), (List.dropLast_concat_getLast _).symm⟩
    rw [List.length_append, List.length_singleton] at hl
    have h1 := numL_lt n l' (by omega) fun x hx => h x (by simp [hx])
    have h2 := h c (by simp)
    rw [numL_snoc, Nat.pow_succ]
    omega
end Go.Proofs.Ytccadhfeiehmbaa
/- bin.Get. -/
namespace Go.Proofs.Ytccadhfeiehmbaa
set_option linter.unusedVariables false
set_option linter.unusedSimpArgs false
open Go.RowKit
def getOk (len : Nat) (at_ size : Int) : Bool := decide (0 ≤ size ∧ size ≤ 8 ∧ 0 ≤ at_ ∧ at_ ≤ (len : Int) ∧ size ≤ (len : Int) - at_)
def getN (l : List Nat) (at_ size : Int) : Nat := if getOk l.length at_ size = true then numL ((l.drop at_.toNat).take size.toNat) else 0
theorem shl_or (x c : Nat) (hc : c < 256) : (x * 256) ||| c = x * 256 + c := by
  have := Nat.two_pow_add_eq_or_of_lt (i := 8) hc x
  rw [show (2 : Nat) ^ 8 * x = x * 256 by omega] at this
  exact this.symm
set_option maxRecDepth 100000 in
set_option maxHeartbeats 3200000 in
theorem get_in (l : List Nat) (p : Option Addr) (c : Nat) (at_ size : Nat) (w : World) (hb : ∀ x ∈ l, x < 256) (hv : Shows w (.slice p l.length c) (bys l)) (hc : l.length ≤ c) (hl : l.length ≤ 1099511627776) (hs : size ≤ 8) (ha : at_ + size ≤ l.length) :
    Calls Try.prog 7 #[.slice p l.length c, .int .i64 (at_ : Int), .int .i64 (size : Int)] w fun e w' => e = .returned (.tuple #[.int .u64 (numL ((l.drop at_).take size) : Nat), .bool true]) ∧ Grew w w' := by
  obtain ⟨N, hN⟩ : ∃ N, l.length = N := ⟨_, rfl⟩
  obtain ⟨m, hm⟩ : ∃ m, (l.drop at_).take size = m := ⟨_, rfl⟩
  have hml : m.length = size := by rw [← hm, List.length_take, List.length_drop]; omega
  have hmb : ∀ x ∈ m, x < 256 := fun x hx => hb x (List.mem_of_mem_drop (List.mem_of_mem_take (by rw [hm]; exact hx)))
  have hget : ∀ k, k < size → m[k]? = l[at_ + k]? := fun k hk => by rw [← hm, List.getElem?_take, if_pos hk, List.getElem?_drop]
  rw [hN] at hv hc hl ha ⊢
  rw [hm]
  clear hm
  have g1 : ¬ (8 : Int) < (size : Int) := by omega
  have g2 : ¬ (N : Int) < (at_ : Int) := by omega
  have g3 : ¬ (N : Int) - (at_ : Int) < (size : Int) := by omega
  have g4 : (at_ : Int) + (size : Int) ≤ (c : Int) := by omega
  have g5 : (at_ : Int) + (size : Int) ≤ 1099511627776 := by omega
  rcases Nat.eq_zero_or_pos N with h0 | h0
  · subst h0
    obtain rfl : at_ = 0 := by omega
    obtain rfl : size = 0 := by omega
    obtain rfl : m = [] := List.length_eq_zero_iff.1 hml
    clear hget hmb hb hv hN
    cases p with
    | none =>
      go_enter Try.func7, Try.ntmps7
      go_wp2
      go_loopw [42, 8] (fun i v wr => i = .int .i64 0 ∧ v = .int .u64 0 ∧ wr = w) (fun _ _ _ => 0)
      case atStart => exact ⟨rfl, rfl, rfl⟩
      case round =>
        obtain ⟨rfl, rfl, rfl⟩ := hrel
        go_wp2
        go_ret2
        exact ⟨rfl, Grew.refl _⟩
    | some a =>
      go_enter Try.func7, Try.ntmps7
      go_wp2
      go_loopw [42, 8] (fun i v wr => i = .int .i64 0 ∧ v = .int .u64 0 ∧ wr = w) (fun _ _ _ => 0)
      case atStart => exact ⟨rfl, rfl, rfl⟩
      case round =>
        obtain ⟨rfl, rfl, rfl⟩ := hrel
        go_wp2
        go_ret2
        exact ⟨rfl, Grew.refl _⟩
  · obtain ⟨b, o, rfl, hbw, hcell⟩ : ∃ b o, p = some ⟨b, o, none⟩ ∧ b < w.heap.size ∧ ∀ j u, (bys l)[j]? = some u → w.cell? ⟨b, o + j, none⟩ = some u := by
      rcases hv with ⟨b, o, c', he, hb, h⟩ | ⟨p', c', he, h0'⟩
      · simp only [Value.slice.injEq] at he
        exact ⟨b, o, he.1, hb, h⟩
      · have := bys_len l; rw [h0'] at this; simp at this; omega
    have hcl : ∀ k, k < size → w.cell? ⟨b, o + (at_ + k), none⟩ = some (.int .u8 ((m.getD k 0 : Nat) : Int)) := fun k hk => by
      refine hcell (at_ + k) _ ?_
      have h1 := hget k hk
      simp only [bys, List.getElem?_map, ← h1, List.getD]
      rw [List.getElem?_eq_getElem (by omega)]
      rfl
    have HC := Lib.hid hcl
    have HMB := Lib.hid hmb
    clear hcl hcell hget hmb hb hv hN
    by_cases hca : c = at_
    · obtain rfl : size = 0 := by omega
      obtain rfl : m = [] := List.length_eq_zero_iff.1 hml
      clear HC HMB
      go_enter Try.func7, Try.ntmps7
      go_wp2
      go_loopw [42, 8] (fun i v wr => i = .int .i64 0 ∧ v = .int .u64 0 ∧ wr = w) (fun _ _ _ => 0)
      case atStart => exact ⟨rfl, rfl, rfl⟩
      case round =>
        obtain ⟨rfl, rfl, rfl⟩ := hrel
        go_wp2
        go_ret2
        exact ⟨rfl, Grew.refl _⟩
    go_enter Try.func7, Try.ntmps7
    go_wp2
    go_loopw [42, 8] (fun i v wr => ∃ k : Nat, k ≤ size ∧ i = .int .i64 k ∧ v = .int .u64 ((numL (m.take k) : Nat) : Int) ∧ wr = w) (fun i _ _ => size - (intOf i).toNat)
    case atStart => exact ⟨0, by omega, rfl, rfl, rfl⟩
    case round =>
      obtain ⟨k, hk, rfl, rfl, rfl⟩ := hrel
      by_cases hks : k < size
      · have hlt : (k : Int) < (size : Int) := by omega
        have hx : m.getD k 0 < 256 := by
          rw [List.getD, List.getElem?_eq_getElem (by omega)]
          exact HMB.out _ (List.getElem_mem _)
        have hn := numL_lt k (m.take k) (by rw [List.length_take]; omega) fun x hx => HMB.out x (List.mem_of_mem_take hx)
        have hst : numL (m.take (k + 1)) = numL (m.take k) * 256 + m.getD k 0 := by
          rw [List.take_add_one, List.getElem?_eq_getElem (by omega), List.getD, List.getElem?_eq_getElem (by omega)]
          exact numL_snoc _ _
        have hc1 := HC.out k hks
        rw [← Nat.add_assoc] at hc1
        have h56 : 256 ^ k ≤ 72057594037927936 := by
          have : 256 ^ k ≤ 256 ^ 7 := Nat.pow_le_pow_right (by omega) (by omega)
          omega
        obtain ⟨x, hxx⟩ : ∃ x, m.getD k 0 = x := ⟨_, rfl⟩
        obtain ⟨n, hnn⟩ : ∃ x, numL (m.take k) = x := ⟨_, rfl⟩
        rw [hxx] at hx hst hc1
        rw [hnn] at hst hn ⊢
        have HST := Lib.hid hst
        have hnb : (n : Int) < 72057594037927936 := by omega
        clear hst hn h56 hxx hnn
        go_wp2
        have hb : bits .or .u64 ((n : Int) * 256) (x : Int) = ((n * 256 + x : Nat) : Int) := by
          have h := bits_or_u64_nat (n * 256) x (by omega) (by omega)
          rw [shl_or n x hx] at h
          rw [← h]
          push_cast
          rfl
        exact ⟨⟨k + 1, by omega, by go_num, by rw [hb, HST.out], trivial⟩, by simp only [intOf]; omega⟩
      · obtain rfl : k = size := by omega
        have hge : ¬ ((k : Int) < (k : Int)) := by omega
        rw [List.take_of_length_le (by omega)]
        clear hk hks
        go_wp2
        go_ret2
        exact ⟨rfl, Grew.refl _⟩
theorem get_out (len c : Nat) (p : Option Addr) (at_ size : Int) (w : World) (hl : len ≤ 1099511627776) (h : getOk len at_ size = false) :
    Calls Try.prog 7 #[.slice p len c, .int .i64 at_, .int .i64 size] w fun e w' => e = .returned (.tuple #[.int .u64 0, .bool false]) ∧ Grew w w' := by
  have h := of_decide_eq_false h
  have h5 : size < 0 ∨ (¬ size < 0 ∧ 8 < size) ∨ (¬ size < 0 ∧ ¬ 8 < size ∧ at_ < 0) ∨ (¬ size < 0 ∧ ¬ 8 < size ∧ ¬ at_ < 0 ∧ (len : Int) < at_) ∨ (¬ size < 0 ∧ ¬ 8 < size ∧ ¬ at_ < 0 ∧ ¬ (len : Int) < at_ ∧ (len : Int) - at_ < size) := by omega
  clear h
  have hlI : (len : Int) ≤ 1099511627776 := by omega
  rcases h5 with h1 | ⟨h1, h2⟩ | ⟨h1, h2, h3⟩ | ⟨h1, h2, h3, h4⟩ | ⟨h1, h2, h3, h4, h5⟩
  all_goals
    go_enter Try.func7, Try.ntmps7
    go_wp2
    go_ret2
    exact ⟨rfl, Grew.refl _⟩
theorem get_w (l : List Nat) (p : Option Addr) (c : Nat) (at_ size : Int) (w : World) (hb : ∀ x ∈ l, x < 256) (hv : Shows w (.slice p l.length c) (bys l)) (hc : l.length ≤ c) (hl : l.length ≤ 1099511627776) :
    Calls Try.prog 7 #[.slice p l.length c, .int .i64 at_, .int .i64 size] w fun e w' => e = .returned (.tuple #[.int .u64 (getN l at_ size : Nat), .bool (getOk l.length at_ size)]) ∧ Grew w w' := by
  cases h : getOk l.length at_ size
  · have hn : getN l at_ size = 0 := by unfold getN; rw [h]; rfl
    rw [hn]
    exact get_out l.length c p at_ size w hl h
  · have hn : getN l at_ size = numL ((l.drop at_.toNat).take size.toNat) := by unfold getN; rw [if_pos h]
    rw [hn]
    have h2 := of_decide_eq_true h
    have := get_in l p c at_.toNat size.toNat w hb hv hc hl (by omega) (by omega)
    rwa [Int.toNat_of_nonneg (by omega), Int.toNat_of_nonneg (by omega)] at this
end Go.Proofs.Ytccadhfeiehmbaa
/- bin.Blob, bin.Rows; the law's small. -/
namespace Go.Proofs.Ytccadhfeiehmbaa
set_option linter.unusedVariables false
set_option linter.unusedSimpArgs false
open Go.RowKit
def blobL (l : List Nat) : List Nat := putL l.length 2 ++ l
theorem blobL_len (l : List Nat) : (blobL l).length = l.length + 2 := by unfold blobL; rw [List.length_append, putL_len]; omega
theorem blobL_lt (l : List Nat) (h : ∀ c ∈ l, c < 256) : ∀ c ∈ blobL l, c < 256 := by
  intro c hc
  rcases List.mem_append.1 hc with hc | hc
  · exact putL_lt _ _ c hc
  · exact h c hc
theorem rows_at2 (w : World) (v v' : Value) (l l' : List Nat) (h : Shows w v (bys l)) (h' : Shows w v' (bys l')) :
    Shows (w.alloc (.cells #[v, v'] 23)) (.slice (some ⟨w.heap.size, 0, none⟩) 2 2) [v, v'] ∧ ∀ k, k < 2 → Shows (w.alloc (.cells #[v, v'] 23)) ([v, v'].getD k undef) (bys ([l, l'].getD k [])) := by
  refine ⟨shows_alloc w [v, v'] _ 2, fun k hk => ?_⟩
  match k, hk with
  | 0, _ => exact h.grew ⟨_, alloc_is_grow w _⟩
  | 1, _ => exact h'.grew ⟨_, alloc_is_grow w _⟩
set_option maxRecDepth 100000 in
set_option maxHeartbeats 3200000 in
theorem blob_w (l : List Nat) (v : Value) (w : World) (hl : l.length ≤ 65535) (hv : Shows w v (bys l)) :
    Calls Try.prog 11 #[v] w fun e w' => ∃ v', e = .returned (.tuple #[v', .bool true]) ∧ OwnR w' w.heap.size 5 v' (bys (blobL l)) ∧ Grew w w' := by
  obtain ⟨p, c, rfl⟩ := shows_form hv
  rw [bys_len] at hv ⊢
  have HV := Lib.hid hv
  obtain ⟨N, hN⟩ : ∃ N, l.length = N := ⟨_, rfl⟩
  have HN := Lib.hid hN
  have K1 := Lib.hid (fun W => put_w l.length 2 (by omega) (by omega) W)
  have hL : ([putL l.length 2, l] : List (List Nat)).flatten = blobL l := by simp [blobL]
  have HL := Lib.hid hL
  rw [hN] at HV hl K1 ⊢
  have hlI : (N : Int) ≤ 65535 := by omega
  clear hN hv hL
  go_enter Try.func11, Try.ntmps11
  go_wp2_with (first | (go_at_call 6; refine stop_of ?_))
  unfold Stop
  refine (K1.out w).mono ?_
  rintro e W1 ⟨cap, rfl, ho, hg⟩
  have HO := Lib.hid ho
  have HG := Lib.hid hg
  clear ho hg K1
  go_wp2_with (go_at_call 13; refine stop_of ?_)
  unfold Stop
  have hr := rows_at2 W1 (.slice (some ⟨w.heap.size, 0, none⟩) 2 cap) (.slice p N c) (putL N 2) l HO.out.shows (HV.out.grew HG.out)
  have hrN := HN.out
  refine (concat_w [putL N 2, l] _ _ _ rfl hr.1 hr.2 (by rw [← hrN, HL.out, blobL_len]; omega) (by simp)).mono ?_
  rintro e W2 ⟨v2, rfl, ho2, hg2⟩
  rw [← hrN, HL.out] at ho2
  have g2 : Grew W1 W2 := (show Grew W1 _ from (by repeat (first | with_reducible exact Grew.refl _ | with_reducible apply Grew.alloc | with_reducible apply Grew.grow | with_reducible apply Grew.drew | with_reducible apply Grew.drewN))).trans hg2
  have HO2 := Lib.hid (ho2.base (show w.heap.size ≤ _ by have := HG.out.size; simp; omega))
  have HG2 := Lib.hid (HG.out.trans g2)
  clear ho2 hg2 g2 hr hrN
  go_wp2
  go_ret2
  exact ⟨_, rfl, HO2.out, HG2.out⟩
/-- Rows' bytes. -/
def rowsL (ls : List (List Nat)) : List Nat := ls.length :: ls.flatMap blobL
def rowsK (ls : List (List Nat)) (k : Nat) : List Nat := ls.length :: (ls.take k).flatMap blobL
theorem rowsK_0 (ls : List (List Nat)) : rowsK ls 0 = [ls.length] := by simp [rowsK]
theorem rowsK_all (ls : List (List Nat)) : rowsK ls ls.length = rowsL ls := by simp [rowsK, rowsL]
theorem rowsK_succ (ls : List (List Nat)) (k : Nat) (h : k < ls.length) : rowsK ls (k + 1) = rowsK ls k ++ blobL (ls.getD k []) := by
  have e : ls.take (k + 1) = ls.take k ++ [ls.getD k []] := by
    rw [List.take_add_one, List.getElem?_eq_getElem h, List.getD, List.getElem?_eq_getElem h]
    rfl
  unfold rowsK
  rw [e, List.flatMap_append]
  simp only [List.flatMap_cons, List.flatMap_nil, List.append_nil, List.cons_append]
theorem rowsK_len (ls : List (List Nat)) (h : ∀ l ∈ ls, l.length ≤ 65535) (k : Nat) (hk : k ≤ ls.length) : (rowsK ls k).length ≤ 1 + 65537 * k := by
  induction k with
  | zero => rw [rowsK_0]; simp
  | succ k ih =>
    rw [rowsK_succ ls k (by omega), List.length_append, blobL_len]
    have h1 := ih (by omega)
    have h2 := h (ls.getD k []) (by rw [List.getD, List.getElem?_eq_getElem (by omega)]; exact List.getElem_mem _)
    omega
/-- An element of what a slice of slices shows. -/
theorem row_at {w : World} {p : Option Addr} {n c : Nat} {vs : List Value} {ls : List (List Nat)} (h1 : vs.length = ls.length) (h2 : Shows w (.slice p n c) vs) (k : Nat) (hk : k < ls.length) : ∃ b o, p = some ⟨b, o, none⟩ ∧ b < w.heap.size ∧ w.cell? ⟨b, o + k, none⟩ = some (vs.getD k undef) := by
  rcases h2 with ⟨b, o, c2, he, hb2, hc⟩ | ⟨p2, c2, he, h0⟩
  · simp only [Value.slice.injEq] at he
    exact ⟨b, o, he.1, hb2, hc k _ (by simp [List.getD, h1, hk])⟩
  · exfalso
    rw [h0] at h1
    simp at h1
    omega
set_option maxRecDepth 100000 in
set_option maxHeartbeats 3200000 in
theorem rows_w (ls : List (List Nat)) (v : Value) (w : World) (hn : ls.length ≤ 255) (hl : ∀ l ∈ ls, l.length ≤ 65535) (hv : RowsAt w v ls) :
    Calls Try.prog 9 #[v] w fun e w' => ∃ v', e = .returned (.tuple #[v', .bool true]) ∧ OwnR w' w.heap.size 5 v' (bys (rowsL ls)) ∧ Grew w w' := by
  obtain ⟨ib, hi, hz, hsz, hby⟩ := info_b
  obtain ⟨vs, hv1, hv2, hv3⟩ := hv
  obtain ⟨p, c, rfl⟩ := shows_form hv2
  rw [hv1] at hv2 ⊢
  have HV1 := Lib.hid hv1
  have HV2 := Lib.hid hv2
  have HV3 := Lib.hid hv3
  have HL := Lib.hid hl
  obtain ⟨N, hN⟩ : ∃ N, ls.length = N := ⟨_, rfl⟩
  have HN := Lib.hid hN
  rw [hN] at hn hv2 HV2 ⊢
  have hnI : (N : Int) ≤ 255 := by omega
  clear hv1 hv2 hv3 hl hN
  go_enter Try.func9, Try.ntmps9
  go_wp2
  have o0 := own_alloc w w.heap.size 5 (bys [N]) (Nat.le_refl _) (by simp [bys, maxLen])
  obtain ⟨A, hA⟩ : ∃ A, w.alloc (.cells #[.int .u8 (N : Int)] 5) = A := ⟨_, rfl⟩
  have gA : Grew w A := by rw [← hA]; exact (by repeat (first | with_reducible exact Grew.refl _ | with_reducible apply Grew.alloc | with_reducible apply Grew.grow | with_reducible apply Grew.drew | with_reducible apply Grew.drewN))
  have hA' : w.alloc (.cells (bys [N]).toArray 5) = A := hA
  rw [hA', ← HN.out, ← rowsK_0] at o0
  rw [hA]
  have O0 := Lib.hid o0
  have GA := Lib.hid gA
  clear o0 gA hA hA'
  go_loopw [18, 4] (fun i v wr => ∃ m : Nat, m ≤ N ∧ i = .int .i64 m ∧ OwnR wr w.heap.size 5 v (bys (rowsK ls m)) ∧ Grew w wr) (fun i _ _ => N - (intOf i).toNat)
  case atStart => exact ⟨0, by omega, rfl, O0.out, GA.out⟩
  case round =>
    obtain ⟨m, hm, rfl, ho, hg⟩ := hrel
    have HO := Lib.hid ho
    have GW := Lib.hid hg
    clear ho hg
    by_cases hmN : m < N
    · have hlt : (m : Int) < (N : Int) := by omega
      have hrow := (HV3.out m (by rw [HN.out]; exact hmN)).grew GW.out
      obtain ⟨b, o, rfl, hbw, hcell⟩ := row_at HV1.out HV2.out m (by rw [HN.out]; exact hmN)
      have hcell2 := GW.out.cell hcell
      have hstep := Lib.hid (rowsK_succ ls m (by rw [HN.out]; exact hmN))
      have hlen1 := rowsK_len ls HL.out m (by rw [HN.out]; omega)
      have hlen2 := HL.out (ls.getD m []) (by rw [List.getD, List.getElem?_eq_getElem (by rw [HN.out]; omega)]; exact List.getElem_mem _)
      obtain ⟨x, hx⟩ : ∃ x, ls.getD m [] = x := ⟨_, rfl⟩
      rw [hx] at hrow hstep hlen2
      obtain ⟨u, hu⟩ : ∃ u, vs.getD m undef = u := ⟨_, rfl⟩
      rw [hu] at hrow hcell hcell2
      obtain ⟨pu, cu, rfl⟩ := shows_form hrow
      have HR := Lib.hid hrow
      clear hx hu hcell hrow hn hm
      go_wp2_with (go_at_call 11; refine stop_of ?_)
      unfold Stop
      refine (blob_w x _ _ (by exact hlen2) HR.out).mono ?_
      rintro e W1 ⟨v1, rfl, ho1, hg1⟩
      have H1 := Lib.hid ho1.shows
      have HO1 := Lib.hid (HO.out.grew hg1)
      have G1 := Lib.hid (GW.out.trans hg1)
      clear ho1 hg1 HO
      go_wp2_with (at_builtin; refine stop_of ?_)
      unfold Stop
      refine wpList_appends rfl _ _ _ rfl _ ib _ 1 under_bs hi hz hsz hby rfl w _ _ _ rfl rfl _ (bys (blobL x)) G1.out (by exact HO1.out) (by exact H1.out) (bys_one _) (by rw [bys_len, bys_len, blobL_len]; simp only [maxLen]; omega) (by rw [bys_len, bys_len, blobL_len]; omega) ?_
      intro v2 w3 ho2 hg2
      rw [← bys_append, ← hstep.out] at ho2
      go_wp2
      exact ⟨⟨m + 1, by omega, by go_num, ho2, hg2⟩, by simp only [intOf]; omega⟩
    · obtain rfl : m = N := by omega
      have hge : ¬ ((m : Int) < (m : Int)) := by omega
      have hall := rowsK_all ls
      rw [HN.out] at hall
      rw [hall] at HO
      clear hm hmN hn hall
      go_wp2
      go_ret2
      exact ⟨_, rfl, HO.out, GW.out⟩
theorem rows_out (n c : Nat) (p : Option Addr) (w : World) (h : 255 < n) : Calls Try.prog 9 #[.slice p n c] w fun e w' => e = .returned (.tuple #[.slice none 0 0, .bool false]) ∧ Grew w w' := by
  have hI : (255 : Int) < (n : Int) := by omega
  clear h
  go_enter Try.func9, Try.ntmps9
  go_wp2
  go_ret2
  exact ⟨rfl, Grew.refl _⟩
end Go.Proofs.Ytccadhfeiehmbaa
/- Numbers as bytes, and back. No program in sight. -/
namespace Go.Proofs.Ytccadhfeiehmbaa
set_option linter.unusedVariables false
set_option linter.unusedSimpArgs false
open Go.RowKit
theorem putL_succ (n s : Nat) : putL n (s + 1) = putL (n / 256) s ++ [n % 256] := by
  unfold putL
  rw [List.range_succ, List.map_append]
  congr 1
  · refine List.map_congr_left fun i hi => ?_
    have hi : i < s := List.mem_range.1 hi
    rw [show s + 1 - 1 - i = (s - 1 - i) + 1 by omega, Nat.pow_succ, Nat.mul_comm, ← Nat.div_div_eq_div_mul]
  · simp
theorem num_put : ∀ (s n : Nat), numL (putL n s) = n % 256 ^ s
  | 0, n => by simp [putL, numL, Nat.mod_one]
  | s + 1, n => by
    rw [putL_succ, numL_snoc, num_put s, Nat.pow_succ, Nat.mul_comm (256 ^ s) 256, Nat.mod_mul]
    omega
theorem put_num : ∀ (s : Nat) (l : List Nat), l.length = s → (∀ c ∈ l, c < 256) → putL (numL l) s = l
  | 0, l, h, _ => by
    obtain rfl : l = [] := List.length_eq_zero_iff.1 h
    rfl
  | s + 1, l, h, hb => by
    obtain ⟨m, c, rfl⟩ : ∃ m c, l = m ++ [c] := ⟨l.dropLast, l.getLast (by intro h0; rw [h0] at h; simp at h), (List.dropLast_concat_getLast _).symm⟩
    have hc : c < 256 := hb c (by simp)
    rw [putL_succ, numL_snoc, show (numL m * 256 + c) / 256 = numL m by omega, show (numL m * 256 + c) % 256 = c by omega, put_num s m (by simpa using h) (fun x hx => hb x (by simp [hx]))]
theorem num_put_lt {n s : Nat} (h : n < 256 ^ s) : numL (putL n s) = n := by rw [num_put, Nat.mod_eq_of_lt h]
end Go.Proofs.Ytccadhfeiehmbaa
/- Bytes shown by a slice, with room. -/
namespace Go.Proofs.Ytccadhfeiehmbaa
set_option linter.unusedVariables false
set_option linter.unusedSimpArgs false
open Go.ChangeShapes Go.WideShapes Go.ChangeAt Go.RowKit
set_option maxRecDepth 100000
def ShowsC (w : World) (v : Value) (l : List Nat) : Prop := ∃ p c, v = .slice p l.length c ∧ l.length ≤ c ∧ Shows w (.slice p l.length c) (bys l)
theorem ShowsC.grew {w w' : World} {v : Value} {l : List Nat} (h : ShowsC w v l) (g : Grew w w') : ShowsC w' v l := by
  obtain ⟨p, c, h1, h2, h3⟩ := h
  exact ⟨p, c, h1, h2, h3.grew g⟩
theorem ShowsC.nil (w : World) : ShowsC w (.slice none 0 0) [] := ⟨none, 0, rfl, Nat.le_refl _, .inr ⟨_, _, rfl, rfl⟩⟩
theorem ShowsC.own {w : World} {base : Nat} {e : TypeId} {v : Value} {l : List Nat} (h : OwnR w base e v (bys l)) : ShowsC w v l := by
  by_cases hl : 0 < l.length
  · obtain ⟨g, cap, rfl, _, _, h4, _, _⟩ := own_form h (by rw [bys_len]; exact hl)
    have hs := h.shows
    rw [bys_len] at h4 hs ⊢
    exact ⟨_, _, rfl, h4, hs⟩
  · have hs := h.shows
    obtain rfl : l = [] := List.length_eq_zero_iff.1 (by omega)
    obtain ⟨p, c, rfl⟩ := shows_form hs
    exact ⟨p, c, rfl, Nat.zero_le _, hs⟩
theorem open_bytesc {H : Type} {enc : TypeId × Value → H} {W : World} {v : Value} {d : DataW H} {p : List MemPlace} (h : DataW.Trod enc Try.prog W 0 (fun _ => true) true 23 v d p) (hv : v.cells = #[v]) :
    ∃ (q : Option Addr) (c : Nat) (l : List Nat), v = .slice q l.length c ∧ (∀ x ∈ l, x < 256) ∧ l.length ≤ maxLen ∧ Shows W (.slice q l.length c) (bys l) ∧ l.length ≤ c := by
  have h0 := h
  obtain ⟨q, c, l, e, hb, hm, hs⟩ := open_bytes h hv
  refine ⟨q, c, l, e, hb, hm, hs, ?_⟩
  obtain ⟨fuel, hf⟩ := h0
  rw [hv] at hf
  rcases open_ints Try.underlying23 Try.underlying5 cellsU8 hf with ⟨hcs, _⟩ | ⟨a, len, cap, zs, hcs, _, hl, _⟩
  · have e2 : v = .slice none 0 0 := by simpa using hcs
    rw [e] at e2
    simp only [Value.slice.injEq] at e2
    omega
  · have e2 : v = .slice (some a) len cap := by simpa using hcs
    rw [e] at e2
    simp only [Value.slice.injEq] at e2
    omega
end Go.Proofs.Ytccadhfeiehmbaa
/- A range over a function whose body is told what holds at the hand-over ('H'): where an iterator hands out what it has just made. It goes the way of the library's 'wpIn_rangeFunc_ownH'. No program in sight. -/
namespace Go
set_option linter.unusedVariables false
set_option linter.unusedSimpArgs false
open Go.RowKit
variable {F : Fence} {n : Nat} {P : Program}
/-- The iterator's contract: what it hands out, 'H' holds of it then. -/
def SeqTells {α : Type} (F : Fence) (n : Nat) (P : Program) (g : Nat) (lb : Array Value) (encs : α → Array Value) (H : α → World → Prop) (Kp : World → World → Prop) (S Sp : List α → Prop) (N : Nat) (w : World) : Prop :=
  ∀ (l : Nat) (J Jx : List α → World → Prop) (W : World), Below w.heap.size w W → AbidesFrom W.heap.size J → AbidesFrom W.heap.size Jx →
    (∀ pre x W1, J pre W1 → H x W1 → pre.length < N → YieldAt F (n - 1) P l (encs x) W1 fun e W' => (e = .returned (.bool true) ∧ J (pre ++ [x]) W' ∧ Kp W1 W') ∨ (e = .returned (.bool false) ∧ Jx (pre ++ [x]) W')) →
    J [] W → CallsIn F n P g (#[.func (.yield l) #[] #[]] ++ lb) W fun e W' => (∃ v, e = .returned v) ∧ ((∃ xs, S xs ∧ J xs W') ∨ (∃ pre, Sp pre ∧ Jx pre W'))
theorem wpIn_rangeFunc_tells {α : Type} {g : Operand} {ps : Array Tmp} {assign body : Code} {Q : Exit → Act → World → Prop} {a : Act} {w : World}
    (hro : F.round = none) (h1 : 1 ≤ n) {gf : Nat} {lb : Array Value} (hg : a.eval g = .func (.func gf) #[] lb) (hFg : F.fn gf) (eg : ∀ args w, (callFunc gf args).run P w = .ok (.enter gf args) w)
    {encs : α → Array Value} {H : α → World → Prop} {Kp : World → World → Prop} {S Sp : List α → Prop} {N : Nat} {w0 : World} (hseq : SeqTells F (n - 1) P gf lb encs H Kp S Sp N w0)
    (hKt : ∀ {A B C : World}, Kp A B → Kp B C → Kp A C) (hKb : ∀ (W : World) (l : Nat) (o o' : Obj), w.heap.size ≤ l → W.heap[l]? = some o → o.isCells = false → o.isWalk = false → Kp W (W.putObj l o')) (hb0 : Below w0.heap.size w0 w) (hps : ∀ x, (encs x).size = ps.size)
    (I : List α → World → Prop) (Ix : Code → List α → World → Prop) (hI : OwnFrom w.heap.size I) (hIx : ∀ c, OwnFrom w.heap.size (Ix c)) (h0 : I [] w) (Ax : List α → α → Act → World → Prop) (hAx : ∀ pre x a', OwnFrom w.heap.size (fun (_ : Unit) W => Ax pre x a' W))
    (hassign : ∀ (l : Nat) (pre : List α) (x : α) (W : World) (K : Act → World → Prop), I pre W → H x W → (∀ a' W', KeepsFrom w.heap.size W W' → Kp W W' → I pre W' → Ax pre x a' W' → K a' W') →
      assign.wpIn (F.inRound l) (n - 1 - 1) P (Exit.then K (fun _ _ _ => False)) { tmps := (ps.zip (encs x)).foldl (fun t (p, v) => t.setIfInBounds p v) a.tmps, defers := [] } W)
    (hbody : ∀ (l : Nat) (pre : List α) (x : α) (a' : Act) (W : World), w.heap.size ≤ l → (∃ r, W.heap[l]? = some (.loop r)) → I pre W → Ax pre x a' W → pre.length < N → body.wpIn (F.inRound l) (n - 1 - 1) P (ownPostG w.heap.size Kp I Ix (pre ++ [x]) W) a' W)
    (hdone : ∀ (D : Nat) (xs : List α) (W : World), w.heap.size ≤ D → S xs → I xs W → W.heap[D]? = some (.deferred (some [])) → Q .normal { a with defers := { target := .collected D, args := #[] } :: a.defers } W)
    (hstop : ∀ (D : Nat) (c : Code) (pre : List α) (W : World), w.heap.size ≤ D → Sp pre → Ix c pre W → W.heap[D]? = some (.deferred (some [])) → c.wpIn F n P Q { a with defers := { target := .collected D, args := #[] } :: a.defers } W) :
    (Code.rangeFunc g ps assign body).wpIn F n P Q a w := by
  refine wpIn_rangeFunc ?_
  intro fn hfn
  rw [hro]
  -- the loop's record, and the block of the rounds' deferred calls
  obtain ⟨R, hR⟩ : ∃ R : LoopState → Option Code → Obj, R = fun st pe => .loop { state := st, pending := pe, fn, tmps := a.tmps, params := ps, assign, body, defers := w.heap.size } := ⟨_, rfl⟩
  have nc : ∀ st pe, (R st pe).isCells = false := fun st pe => by rw [hR]; rfl
  have nw : ∀ st pe, (R st pe).isWalk = false := fun st pe => by rw [hR]; rfl
  obtain ⟨V, hV⟩ : ∃ V, (w.alloc (.deferred (some []))).alloc (R .ready none) = V := ⟨_, rfl⟩
  have vR : V.heap[w.heap.size + 1]? = some (R .ready none) := by
    rw [← hV]; have := World.alloc_heap_new (w.alloc (.deferred (some []))) (R .ready none); rwa [World.size_alloc] at this
  have vD : V.heap[w.heap.size]? = some (.deferred (some [])) := by
    rw [← hV]; exact (Below.heap_alloc _ _ _ (by simp)).trans (World.alloc_heap_new w _)
  have vI : I [] V := by rw [← hV]; exact hI.alloc _ (hI.alloc _ h0)
  have vB : Below w0.heap.size w0 V := by
    rw [← hV]; exact hb0.trans ((((Below.refl _ w).alloc (Nat.le_refl _) _).alloc (by simp) _).mono hb0.size)
  have vS : w.heap.size ≤ V.heap.size := by rw [← hV]; simp; omega
  have moved : ∀ {A : World} {row : Option Nat}, (∀ r, row = some r → V.heap.size ≤ r ∧ ∃ o : Obj, A.heap[r]? = some o ∧ o.isWalk = true) → ∀ r, row = some r → w.heap.size ≤ r ∧ ∃ o : Obj, A.heap[r]? = some o ∧ o.isCells = false :=
    fun hr r e => by obtain ⟨hB, o, ho, hw⟩ := hr r e; exact ⟨Nat.le_trans vS hB, o, ho, Obj.not_cells_of_walk hw⟩
  refine ⟨w.heap.size + 1, [{ target := .collected w.heap.size, args := #[] }], V, { target := .fn (.func gf) lb, args := #[.func (.yield (w.heap.size + 1)) #[] #[]] }, V, gf,
    #[.func (.yield (w.heap.size + 1)) #[] #[]] ++ lb, V, by rw [← hV, hR]; exact run_enterLoop_outer _ _ _ _ _, by simp only [resolve, hg]; simp [go_sem], by intro f' hf'; simp [Target.leads] at hf'; subst hf'; exact hFg, by simp [invoke, go_sem, eg], fun _ => h1, ?_⟩
  refine (hseq (w.heap.size + 1)
    (fun pre W => I pre W ∧ W.heap[w.heap.size + 1]? = some (R .ready none) ∧ W.heap[w.heap.size]? = some (.deferred (some [])))
    (fun pre W => ∃ c, Ix c pre W ∧ W.heap[w.heap.size + 1]? = some (R .done (some c)) ∧ W.heap[w.heap.size]? = some (.deferred (some []))) V vB ?_ ?_ ?_ ⟨vI, vR, vD⟩).mono ?_
  · rintro s A B row ⟨s1, s2, s3⟩ hg' hr
    exact ⟨hI s A B row s1 hg' (moved hr), (grownBy_keeps hg' (fun r e => (hr r e).2) s2 (nw _ _)).trans s2, (grownBy_keeps hg' (fun r e => (hr r e).2) s3 rfl).trans s3⟩
  · rintro s A B row ⟨c, s1, s2, s3⟩ hg' hr
    exact ⟨c, hIx c s A B row s1 hg' (moved hr), (grownBy_keeps hg' (fun r e => (hr r e).2) s2 (nw _ _)).trans s2, (grownBy_keeps hg' (fun r e => (hr r e).2) s3 rfl).trans s3⟩
  · -- one round
    rintro pre x W ⟨hi, hl, _⟩ hH hlen
    have hl' := hl
    rw [hR] at hl'
    have hy := run_yield (P := P) (args := encs x) hl' (hps x)
    refine ⟨fn, _, assign, body, hy, roundIn_of_wpIn hfn (hassign _ pre x W _ hi hH ?_)⟩
    intro a' U hkf hkp hiU hax
    have uR := hkf.same _ _ (by omega) hl (nc _ _)
    have uD := hkf.same _ _ (Nat.le_refl _) (show W.heap[w.heap.size]? = some (.deferred (some [])) by assumption) rfl
    have uS : w.heap.size + 1 < U.heap.size := (Array.getElem?_eq_some_iff.1 uR).1
    have uR' := uR
    rw [hR] at uR'
    refine ⟨_, run_beginRound uR' rfl, ?_⟩
    obtain ⟨Z, hZ⟩ : ∃ Z, U.putObj (w.heap.size + 1) (R .busy none) = Z := ⟨_, rfl⟩
    have e1 : U.putObj (w.heap.size + 1) (.loop { state := .busy, pending := none, fn, tmps := a.tmps, params := ps, assign, body, defers := w.heap.size }) = Z := by rw [← hZ, hR]
    show body.wpIn (F.inRound (w.heap.size + 1)) (n - 1 - 1) P _ a' (U.putObj (w.heap.size + 1) (.loop { state := .busy, pending := none, fn, tmps := a.tmps, params := ps, assign, body, defers := w.heap.size }))
    rw [e1]
    have zR : Z.heap[w.heap.size + 1]? = some (R .busy none) := by rw [← hZ]; exact World.putObj_heap_same uS
    have zD : Z.heap[w.heap.size]? = some (.deferred (some [])) := by rw [← hZ]; exact (World.putObj_heap_other (by omega)).trans uD
    have zI : I pre Z := by rw [← hZ]; exact hI.putObj _ hiU (by omega) uR (nc _ _)
    have zA : Ax pre x a' Z := by rw [← hZ]; exact (hAx pre x a').putObj (s := ()) _ hax (by omega) uR (nc _ _)
    have zK : Kp U Z := by rw [← hZ]; exact hKb _ _ _ _ (by omega) uR (nc _ _) (nw _ _)
    -- a round's end
    have fin : ∀ (jump : Option Code) (Y : World), KeepsFrom w.heap.size Z Y → ∃ Y', (Instr.endRound (w.heap.size + 1) jump).run P Y = .ok (.bool jump.isNone) Y' ∧ Y' = Y.putObj (w.heap.size + 1) (R (if jump.isNone then .ready else .done) jump) ∧
        Y.heap[w.heap.size + 1]? = some (R .busy none) ∧ Y'.heap[w.heap.size + 1]? = some (R (if jump.isNone then .ready else .done) jump) ∧ Y'.heap[w.heap.size]? = some (.deferred (some [])) := fun jump Y hk => by
      have yR := hk.same _ _ (by omega) zR (nc _ _)
      have yR' := yR
      rw [hR] at yR'
      refine ⟨_, run_endRound jump yR', by rw [hR], yR, ?_, (World.putObj_heap_other (by omega)).trans (hk.same _ _ (Nat.le_refl _) zD rfl)⟩
      have := World.putObj_heap_same (o := R (if jump.isNone then .ready else .done) jump) (Array.getElem?_eq_some_iff.1 yR).1
      rw [hR] at this ⊢
      exact this
    refine wpIn_mono (hbody _ pre x a' Z (by omega) ⟨_, by rw [zR, hR]⟩ zI zA hlen) ?_
    rintro e a3 Y hp
    cases e with
    | normal =>
      obtain ⟨k1, k2, k3⟩ := hp
      obtain ⟨Y', r1, rfl, r3, r4, r5⟩ := fin none Y k1
      exact ⟨_, _, r1, .inl ⟨rfl, ⟨hI.putObj _ k3 (by omega) r3 (nc _ _), r4, r5⟩, hKt hkp (hKt (hKt zK k2) (hKb _ _ _ _ (by omega) r3 (nc _ _) (nw _ _)))⟩⟩
    | ret =>
      obtain ⟨k1, k3⟩ := hp
      obtain ⟨Y', r1, rfl, r3, r4, r5⟩ := fin (some .ret) Y k1
      exact ⟨_, _, r1, .inr ⟨rfl, .ret, (hIx _).putObj _ k3 (by omega) r3 (nc _ _), r4, r5⟩⟩
    | exit id =>
      obtain ⟨k1, k3⟩ := hp
      obtain ⟨Y', r1, rfl, r3, r4, r5⟩ := fin (some (.exit id)) Y k1
      exact ⟨_, _, r1, .inr ⟨rfl, .exit id, (hIx _).putObj _ k3 (by omega) r3 (nc _ _), r4, r5⟩⟩
    | goto t =>
      obtain ⟨k1, k3⟩ := hp
      obtain ⟨Y', r1, rfl, r3, r4, r5⟩ := fin (some (.goto t)) Y k1
      exact ⟨_, _, r1, .inr ⟨rfl, .goto t, (hIx _).putObj _ k3 (by omega) r3 (nc _ _), r4, r5⟩⟩
    | panic ch => exact hp.elim
    | outgrown => exact hp.elim
  · -- behind the iterator
    rintro e U ⟨⟨v, rfl⟩, ⟨xs, hS, hi, hl, hk⟩ | ⟨pre, hSp, c, hi, hl, hk⟩⟩
    · have hl' := hl
      rw [hR] at hl'
      exact ⟨none, _, run_endLoop hl' (by simp), hdone _ xs _ (Nat.le_refl _) hS (hI.putObj _ hi (by omega) hl (nc _ _)) ((World.putObj_heap_other (by omega)).trans hk)⟩
    · have hl' := hl
      rw [hR] at hl'
      exact ⟨some c, _, run_endLoop hl' (by simp), hstop _ c pre _ (Nat.le_refl _) hSp ((hIx c).putObj _ hi (by omega) hl (nc _ _)) ((World.putObj_heap_other (by omega)).trans hk)⟩
end Go
namespace Go.Proofs.Ytccadhfeiehmbaa
end Go.Proofs.Ytccadhfeiehmbaa
/- slices.Clone of bytes; bin.Cut. -/
namespace Go.Proofs.Ytccadhfeiehmbaa
open Go.RowKit
set_option maxRecDepth 100000
set_option linter.unusedVariables false
set_option linter.unusedSimpArgs false
@[go_sem] theorem eql_nil_bs (w : World) (a : Option Addr) (n c : Nat) : (binOp .eql 23 (.slice a n c) (.slice none 0 0)).run Try.prog w = .ok (.bool a.isNone) w := Lib.run_eql_slice_nil w 23 5 a n c 0 0 under_bs
set_option maxHeartbeats 3200000 in
theorem bclone_w (l : List Nat) (v : Value) (w : World) (hl : l.length ≤ 1000000) (hv : Shows w v (bys l)) :
    Calls Try.prog 17 #[v] w fun e w' => ∃ v', e = .returned v' ∧ OwnR w' w.heap.size 5 v' (bys l) ∧ Grew w w' := by
  obtain ⟨ib, hi, hz, hsz, hby⟩ := info_b
  obtain ⟨p, c, rfl⟩ := shows_form hv
  rw [bys_len] at hv ⊢
  have HV := Lib.hid hv
  obtain ⟨N, hN⟩ : ∃ N, l.length = N := ⟨_, rfl⟩
  have HN := Lib.hid hN
  rw [hN] at HV ⊢
  have HL := Lib.hid hl
  clear hv hN hl
  go_enter Try.func17, Try.ntmps17
  cases p with
  | none =>
    obtain rfl : l = [] := by
      rcases HV.out with ⟨b, o, c', h, _⟩ | ⟨_, _, _, h⟩
      · simp at h
      · cases l with
        | nil => rfl
        | cons x l => simp [bys] at h
    go_wp2
    go_ret
    exact ⟨_, rfl, OwnR.nil _ _ _, Grew.refl _⟩
  | some a =>
    go_wp2_with (at_builtin; refine stop_of ?_)
    unfold Stop
    have o0 := own_alloc w w.heap.size 5 [] (Nat.le_refl _) (by simp [maxLen])
    have O0 := Lib.hid o0
    clear o0
    refine wpList_appends rfl _ _ _ rfl _ ib _ 1 under_bs hi hz hsz hby rfl w _ _ _ rfl rfl [] (bys l) (by repeat (first | with_reducible exact Grew.refl _ | with_reducible apply Grew.alloc | with_reducible apply Grew.grow | with_reducible apply Grew.drew | with_reducible apply Grew.drewN)) (by exact O0.out) (by exact HV.out.grew (by repeat (first | with_reducible exact Grew.refl _ | with_reducible apply Grew.alloc | with_reducible apply Grew.grow | with_reducible apply Grew.drew | with_reducible apply Grew.drewN))) (bys_one _) (by rw [bys_len]; have := HL.out; simp [maxLen]; omega) (by rw [bys_len]; have := HL.out; simp; omega) ?_
    intro v' w' ho' hg'
    rw [List.nil_append] at ho'
    have HO := Lib.hid ho'
    have HG := Lib.hid hg'
    clear ho' hg'
    go_wp2
    go_ret
    exact ⟨_, rfl, HO.out, HG.out⟩
/-- What is cut off, and where it goes on. -/
def blobAt (l : List Nat) (a : Nat) : Option (List Nat × Nat) :=
  if a + 2 ≤ l.length ∧ a + 2 + numL ((l.drop a).take 2) ≤ l.length then some ((l.drop (a + 2)).take (numL ((l.drop a).take 2)), a + 2 + numL ((l.drop a).take 2)) else none
theorem numL2_lt (l : List Nat) (hb : ∀ x ∈ l, x < 256) (a : Nat) : numL ((l.drop a).take 2) < 65536 := by
  have h1 := numL_lt _ ((l.drop a).take 2) rfl (fun x hx => hb x (List.mem_of_mem_drop (List.mem_of_mem_take hx)))
  have h2 : ((l.drop a).take 2).length ≤ 2 := by rw [List.length_take]; omega
  have h3 : 256 ^ ((l.drop a).take 2).length ≤ 256 ^ 2 := Nat.pow_le_pow_right (by decide) h2
  omega
/-- What Cut hands back. -/
def CutP (l : List Nat) (a : Nat) (w : World) (e : Ending) (w' : World) : Prop := (blobAt l a = none ∧ e = .returned (.tuple #[.slice none 0 0, .int .i64 0, .bool false])) ∨
  ∃ x t v, blobAt l a = some (x, t) ∧ e = .returned (.tuple #[v, .int .i64 (t : Nat), .bool true]) ∧ OwnR w' w.heap.size 5 v (bys x)
set_option maxHeartbeats 3200000 in
theorem cut_w (l : List Nat) (p : Option Addr) (c : Nat) (a : Nat) (w : World) (hb : ∀ x ∈ l, x < 256) (hv : Shows w (.slice p l.length c) (bys l)) (hc : l.length ≤ c) (hl : l.length ≤ 1000000) :
    Calls Try.prog 15 #[.slice p l.length c, .int .i64 (a : Nat)] w fun e w' => CutP l a w e w' ∧ Grew w w' := by
  have hn2 := numL2_lt l hb a
  have CG := Lib.hid (fun W (s : Shows W (.slice p l.length c) (bys l)) => get_w l p c a 2 W hb s hc (by omega))
  by_cases h1 : a + 2 ≤ l.length
  · have e1 : getOk l.length a 2 = true := decide_eq_true (by omega)
    have e2 : getN l a 2 = numL ((l.drop a).take 2) := by
      unfold getN
      rw [if_pos e1]
      rfl
    rw [e1, e2] at CG
    obtain ⟨n, hn⟩ : ∃ n, numL ((l.drop a).take 2) = n := ⟨_, rfl⟩
    rw [hn] at CG hn2
    by_cases h2 : a + 2 + n ≤ l.length
    · have hbl : blobAt l a = some ((l.drop (a + 2)).take n, a + 2 + n) := by unfold blobAt; rw [if_pos (by rw [hn]; exact ⟨h1, h2⟩), hn]
      have BL := Lib.hid hbl
      obtain ⟨x, hx⟩ : ∃ x, (l.drop (a + 2)).take n = x := ⟨_, rfl⟩
      have hxl : x.length = n := by rw [← hx, List.length_take, List.length_drop]; omega
      obtain ⟨b, o, rfl, hbW, hat⟩ : ∃ b o, p = some ⟨b, o, none⟩ ∧ b < w.heap.size ∧ ∀ j u, (bys l)[j]? = some u → w.cell? ⟨b, o + j, none⟩ = some u := by
        rcases hv with ⟨b, o, c', he, hbb, hat⟩ | ⟨p', c', he, h0⟩
        · simp only [Value.slice.injEq] at he
          exact ⟨b, o, he.1, hbb, hat⟩
        · have := congrArg List.length h0
          rw [bys_len] at this
          have h3 : l.length = 0 := this
          omega
      obtain ⟨N, hN⟩ : ∃ N, l.length = N := ⟨_, rfl⟩
      have HV := Lib.hid hv
      have HA := Lib.hid (And.intro hbW hat)
      rw [hN] at CG HV h1 h2 hc hl ⊢
      have i1 : ¬ ((N : Int) - (a : Int) - 2 < (n : Int)) := by omega
      have i2 : (a : Int) + 2 ≤ (a : Int) + 2 + (n : Int) := by omega
      have i3 : (a : Int) + 2 + (n : Int) ≤ (c : Int) := by omega
      clear hv hbl hbW hat hb
      have tail : ∀ (V : Value), Shows w V (bys x) → ∀ W1, Grew w W1 → Calls Try.prog 17 #[V] W1 fun e w' => ∃ v', e = .returned v' ∧ OwnR w' w.heap.size 5 v' (bys x) ∧ Grew w w' := fun V hV W1 g => (bclone_w x V W1 (by omega) (hV.grew g)).mono (by rintro e w' ⟨v', rfl, ho, hg⟩; exact ⟨v', rfl, ho.base g.size, g.trans hg⟩)
      have HX := Lib.hid (And.intro hx hxl)
      rcases Nat.eq_zero_or_pos n with h0 | h0
      · subst h0
        have hx0 : x = [] := List.length_eq_zero_iff.1 hxl
        have T := Lib.hid <| tail (.slice (some ⟨b, o, none⟩) 0 0) (by rw [hx0]; exact .inr ⟨_, _, rfl, rfl⟩)
        clear tail hx hxl hx0
        go_enter Try.func15, Try.ntmps15
        go_wp2_with (go_at_call 7; refine stop_of ?_)
        unfold Stop
        refine (CG.out w HV.out).mono ?_
        rintro e W1 ⟨rfl, hg⟩
        have G1 := Lib.hid hg
        clear hg CG
        go_wp2_with (go_at_call 17; refine stop_of ?_)
        unfold Stop
        refine (T.out _ G1.out).mono ?_
        rintro e W2 ⟨v', rfl, ho, hg⟩
        have HO := Lib.hid ho
        have G2 := Lib.hid hg
        clear ho hg
        go_wp2
        refine bodyPost_ret (v := .tuple #[v', .int .i64 ((a + 2 + 0 : Nat) : Int), .bool true]) (by simp [results, Try.results15, go_sem]) rfl ⟨.inr ⟨_, _, v', BL.out, rfl, by rw [HX.out.1]; exact HO.out⟩, G2.out⟩
      · have T := Lib.hid <| tail (.slice (some ⟨b, o + (a + 2), none⟩) n n) (by
          refine .inl ⟨b, o + (a + 2), n, by rw [bys_len, hxl], HA.out.1, fun j u hj => ?_⟩
          have := HA.out.2 (a + 2 + j) u (by
            rw [← hx] at hj
            unfold bys at hj ⊢
            rw [List.getElem?_map] at hj ⊢
            rw [List.getElem?_take] at hj
            by_cases hjn : j < n
            · rw [if_pos hjn, List.getElem?_drop] at hj
              exact hj
            · rw [if_neg hjn] at hj; cases hj)
          rwa [show o + (a + 2 + j) = o + (a + 2) + j by omega] at this)
        have n0 : ¬ n = 0 := by omega
        clear tail hx hxl h0
        go_enter Try.func15, Try.ntmps15
        go_wp2_with (go_at_call 7; refine stop_of ?_)
        unfold Stop
        refine (CG.out w HV.out).mono ?_
        rintro e W1 ⟨rfl, hg⟩
        have G1 := Lib.hid hg
        clear hg CG
        go_wp2_with (go_at_call 17; refine stop_of ?_)
        unfold Stop
        refine (T.out _ G1.out).mono ?_
        rintro e W2 ⟨v', rfl, ho, hg⟩
        have HO := Lib.hid ho
        have G2 := Lib.hid hg
        clear ho hg
        go_wp2
        refine bodyPost_ret (v := .tuple #[v', .int .i64 ((a + 2 + n : Nat) : Int), .bool true]) (by simp [results, Try.results15, go_sem]) rfl ⟨.inr ⟨_, _, v', BL.out, rfl, by rw [HX.out.1]; exact HO.out⟩, G2.out⟩
    · have hbl : blobAt l a = none := by unfold blobAt; rw [if_neg (by rw [hn]; exact fun h => h2 h.2)]
      have BL := Lib.hid hbl
      have HV := Lib.hid hv
      obtain ⟨N, hN⟩ : ∃ N, l.length = N := ⟨_, rfl⟩
      rw [hN] at CG HV h1 h2 hc hl ⊢
      have i1 : (N : Int) - (a : Int) - 2 < (n : Int) := by omega
      clear hv hbl hb
      go_enter Try.func15, Try.ntmps15
      go_wp2_with (go_at_call 7; refine stop_of ?_)
      unfold Stop
      refine (CG.out w HV.out).mono ?_
      rintro e W1 ⟨rfl, hg⟩
      have G1 := Lib.hid hg
      clear hg CG
      go_wp2
      refine bodyPost_ret (v := .tuple #[.slice none 0 0, .int .i64 0, .bool false]) (by simp [results, Try.results15, go_sem]) rfl ⟨.inl ⟨BL.out, rfl⟩, G1.out⟩
  · have hbl : blobAt l a = none := by unfold blobAt; rw [if_neg (fun h => h1 h.1)]
    have BL := Lib.hid hbl
    have HV := Lib.hid hv
    have e1 : getOk l.length a 2 = false := decide_eq_false (by omega)
    have e2 : getN l a 2 = 0 := by
      unfold getN
      rw [if_neg (by rw [e1]; simp)]
    rw [e1, e2] at CG
    obtain ⟨N, hN⟩ : ∃ N, l.length = N := ⟨_, rfl⟩
    rw [hN] at CG HV h1 hc hl ⊢
    clear hv hbl hb e1 e2 hn2
    go_enter Try.func15, Try.ntmps15
    go_wp2_with (go_at_call 7; refine stop_of ?_)
    unfold Stop
    refine (CG.out w HV.out).mono ?_
    rintro e W1 ⟨rfl, hg⟩
    have G1 := Lib.hid hg
    clear hg CG
    go_wp2
    refine bodyPost_ret (v := .tuple #[.slice none 0 0, .int .i64 0, .bool false]) (by simp [results, Try.results15, go_sem]) rfl ⟨.inl ⟨BL.out, rfl⟩, G1.out⟩
end Go.Proofs.Ytccadhfeiehmbaa
