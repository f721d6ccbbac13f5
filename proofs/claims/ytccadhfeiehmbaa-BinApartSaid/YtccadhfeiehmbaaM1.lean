/- What the statements of this chapter rest on, part 1. Conditions: none. -/
import Derived.WalkKit
import Derived.WalkSpells
import Derived.WalkLawsBesides
import Derived.Deep.QuietTactic
import Derived.BigQuiet
import Derived.StillTailTactics
import Derived.Lib.Hide
import Derived.ChangeKeysEq
import Derived.Laws.Rows
import Derived.Deep.MidRow
import Derived.Test.YtccadhfeiehmbaaRows
import Derived.Laws.AppendOwn
import Derived.Laws.CopyOwn
import Derived.Lib.AppendZeros
/- Base: the world with new memory behind it ('grow'), what a walk needs of it, and regions that draw their order over it. No program in sight. -/
namespace Go
set_option linter.unusedVariables false
set_option linter.unusedSimpArgs false
open Go.RowKit

/-- New blocks, and how often the tape has been asked. -/
structure Junk where
  objs : Array Obj
  drawn : Nat

instance : Inhabited Junk := ⟨⟨#[], 0⟩⟩
def Junk.n (δ : Junk) : Nat := δ.objs.size
/-- 'w' with new blocks behind all that it has. -/
def World.grow (w : World) (δ : Junk) : World := { w with heap := w.heap ++ δ.objs, drawn := δ.drawn }

section
variable (w : World) (δ ε : Junk)
@[simp, go_sem] theorem size_grow : (w.grow δ).heap.size = w.heap.size + δ.n := by simp [World.grow, Junk.n]
@[simp, go_sem] theorem tape_grow : (w.grow δ).tape = w.tape := rfl
@[simp, go_sem] theorem os_grow : (w.grow δ).os = w.os := rfl
@[simp, go_sem] theorem output_grow : (w.grow δ).output = w.output := rfl
theorem heap_grow_old (b : Nat) (h : b < w.heap.size) : (w.grow δ).heap[b]? = w.heap[b]? := by
  simp [World.grow, Array.getElem?_append, h]
theorem cell_grow_old (b i : Nat) (s) (h : b < w.heap.size) : (w.grow δ).cell? ⟨b, i, s⟩ = w.cell? ⟨b, i, s⟩ :=
  World.cell?_of_block (heap_grow_old w δ b h)
theorem frozen_grow_old (b i : Nat) (s) (h : b < w.heap.size) : (w.grow δ).frozen? ⟨b, i, s⟩ = w.frozen? ⟨b, i, s⟩ :=
  World.frozen?_of_block (heap_grow_old w δ b h)
@[simp, go_sem] theorem grow_grow : (w.grow δ).grow ε = w.grow ⟨δ.objs ++ ε.objs, ε.drawn⟩ := by
  simp [World.grow, Array.append_assoc]
@[simp, go_sem] theorem grow_drew : (w.grow δ).drew = w.grow ⟨δ.objs, δ.drawn + 1⟩ := rfl
@[simp, go_sem] theorem drew_grow : w.drew.grow δ = w.grow δ := rfl
@[simp, go_sem] theorem grow_drewN (n : Nat) : (w.grow δ).drewN n = w.grow ⟨δ.objs, δ.drawn + n⟩ := rfl
@[simp, go_sem] theorem drewN_grow (n : Nat) : (w.drewN n).grow δ = w.grow δ := rfl
theorem grow_self : w.grow ⟨#[], w.drawn⟩ = w := by simp [World.grow]
theorem drew_is_grow : w.drew = w.grow ⟨#[], w.drawn + 1⟩ := by simp only [World.grow, World.drew, Array.append_empty]
theorem drewN_is_grow (n : Nat) : w.drewN n = w.grow ⟨#[], w.drawn + n⟩ := by simp [World.grow, World.drewN]
theorem alloc_is_grow (o : Obj) : w.alloc o = w.grow ⟨#[o], w.drawn⟩ := by simp only [World.grow, World.alloc, Array.append_singleton]
theorem setCell_grow_old (b i : Nat) (s) (v : Value) (h : b < w.heap.size) : (w.grow δ).setCell ⟨b, i, s⟩ v = (w.setCell ⟨b, i, s⟩ v).grow δ := by
  simp only [World.grow, World.setCell]
  congr 1
  apply Array.ext
  · simp
  · intro k h1 h2
    simp only [Array.getElem_modify, Array.getElem_append, Array.size_modify]
    split
    · rename_i hk; subst hk; simp [h]
    · rename_i hk; split <;> rfl
end

@[go_sem] theorem lt_add_junk (δ : Junk) (a b : Nat) (h : a < b) : a < b + δ.n := by omega
@[go_sem] theorem le_add_junk (δ : Junk) (a b : Nat) (h : a ≤ b) : a ≤ b + δ.n := by omega
attribute [go_sem] cell_grow_old frozen_grow_old setCell_grow_old

/-! ### 'w'' is 'w' with something behind it -/
/-- 'w'' has all that 'w' has, and maybe more behind it. -/
def Grew (w w' : World) : Prop := ∃ δ, w' = w.grow δ
theorem Grew.refl (w : World) : Grew w w := ⟨_, (grow_self w).symm⟩
theorem Grew.trans {a b c : World} (h : Grew a b) (k : Grew b c) : Grew a c := by
  obtain ⟨δ, rfl⟩ := h; obtain ⟨ε, rfl⟩ := k; exact ⟨_, grow_grow a δ ε⟩
theorem Grew.grow {a b : World} (h : Grew a b) (δ : Junk) : Grew a (b.grow δ) := h.trans ⟨δ, rfl⟩
theorem Grew.alloc {a b : World} (h : Grew a b) (o : Obj) : Grew a (b.alloc o) := h.trans ⟨_, alloc_is_grow b o⟩
theorem Grew.drew {a b : World} (h : Grew a b) : Grew a b.drew := h.trans ⟨_, drew_is_grow b⟩
theorem Grew.drewN {a b : World} (h : Grew a b) (n : Nat) : Grew a (b.drewN n) := h.trans ⟨_, drewN_is_grow b n⟩
theorem Grew.size {a b : World} (h : Grew a b) : a.heap.size ≤ b.heap.size := by obtain ⟨δ, rfl⟩ := h; simp
theorem Grew.cell {a b : World} (h : Grew a b) {p : Addr} {v : Value} (hc : a.cell? p = some v) : b.cell? p = some v := by
  obtain ⟨δ, rfl⟩ := h
  exact (World.cell?_of_block (heap_grow_old a δ p.block (World.block_lt_of_cell? a p hc))).trans hc
theorem Grew.heap {a b : World} (h : Grew a b) {k : Nat} (hk : k < a.heap.size) : b.heap[k]? = a.heap[k]? := by
  obtain ⟨δ, rfl⟩ := h; exact heap_grow_old a δ k hk
theorem Grew.below {a b : World} (h : Grew a b) : Below a.heap.size a b := by
  obtain ⟨δ, rfl⟩ := h
  exact ⟨rfl, rfl, rfl, by simp, fun k hk => heap_grow_old a δ k hk⟩
theorem Grew.of_below {a b : World} (h : Below a.heap.size a b) : Grew a b := by
  refine ⟨⟨b.heap.extract a.heap.size b.heap.size, b.drawn⟩, ?_⟩
  obtain ⟨h1, h2, h3, h4, h5⟩ := h
  cases b with
  | mk heap tape drawn os output =>
    simp only [World.grow] at *
    subst h1 h2 h3
    congr 1
    apply Array.ext
    · simp; omega
    · intro k k1 k2
      simp only [Array.getElem_append, Array.getElem_extract]
      split
      · rename_i hk
        have := h5 k hk
        simpa [Array.getElem?_eq_getElem k1, Array.getElem?_eq_getElem hk] using this
      · rename_i hk
        congr 1
        omega

/-- What a callee owes that hands back 'v' and leaves what was as it was. -/
theorem Calls.pure_of {P : Program} {f : FuncId} {args : Array Value} {w : World} {δ : Junk} {v : Value}
    (h : Calls P f args (w.grow δ) fun e w' => e = .returned v ∧ Grew (w.grow δ) w') : Calls P f args (w.grow δ) fun e w'' => e = .returned v ∧ ∃ m, w'' = w.grow m :=
  h.mono fun _ _ ⟨he, hm⟩ => ⟨he, by obtain ⟨m, rfl⟩ := hm; exact ⟨_, grow_grow w δ m⟩⟩

section
variable {P : Program} {ops : Array Oper} {md : Region.Mode} {C : World → Prop}

/-- A region that draws, whose operations and callees leave what was as it was: one walk. -/
theorem wp_region_pure_lit {id : Nat} {Q : Exit → Act → World → Prop} {a : Act} {w : World} {l : List Oper} (hm : P.follows .mixedOrders = true) (hB : Region.lexB .any l.toArray = true)
    (h : wpQuiet P l.toArray (fun w' => ∃ n, w' = w.grow n) (fun a' => ∀ w', (∃ n, w' = w.grow n) → Q .normal a' w') l a) : (Code.region id l.toArray true).wp P Q a w :=
  wp_region_quiet (C := fun w' => ∃ n, w' = w.grow n) hm hB ⟨_, drew_is_grow w⟩ (by simpa using h)

/-- The same where the world bears new memory at its end already: it is forgotten what. -/
theorem wp_region_pure_lit_g {id : Nat} {Q : Exit → Act → World → Prop} {a : Act} {w : World} {δ : Junk} {l : List Oper} (hm : P.follows .mixedOrders = true) (hB : Region.lexB .any l.toArray = true)
    (h : wpQuiet P l.toArray (fun w' => ∃ n, w' = w.grow n) (fun a' => ∀ w', (∃ n, w' = w.grow n) → Q .normal a' w') l a) : (Code.region id l.toArray true).wp P Q a (w.grow δ) :=
  wp_region_quiet (C := fun w' => ∃ n, w' = w.grow n) hm hB ⟨_, grow_drew w δ⟩ (by simpa using h)

/-! ### Such a region with a tail that goes in one order; what only takes a part of a pair may come before or behind the tail's steps -/
/-- 't' waits for 'i', at once or through others. -/
def Region.waitsT (md : Region.Mode) (ops : Array Oper) : Nat → Nat → Nat → Bool
  | 0, _, _ => false
  | f + 1, t, i => match ops[t]? with
    | some o => o.after.any fun e => Region.binds md e && (e.on == i || Region.waitsT md ops f e.on i)
    | none => false
def Oper.takesPart (o : Oper) : Bool := o.guard.isNone && match o.op with | .extract .. => true | _ => false
def Region.headB (md : Region.Mode) (ops : Array Oper) (n : Nat) : Bool :=
  (List.range n).all fun i => ((ops[i]?).map (·.takesPart)).getD false || (List.range ops.size).all fun t => decide (t < n) || Region.waitsT md ops ops.size t i
def Region.mixB (md : Region.Mode) (ops : Array Oper) (n : Nat) : Bool :=
  Region.noSelect ops && decide (n ≤ ops.size) && Region.headB md ops n && Region.lexHead md ops (ops.size - n) n 0 (Array.replicate ops.size false)

def ClosedL (md : Region.Mode) (ops : Array Oper) (listed : Array Bool) : Prop :=
  ∀ j oj, ops[j]? = some oj → listed.getD j false = true → ∀ e ∈ oj.after, Region.binds md e = true → listed.getD e.on false = true

theorem ClosedL.set {i : Nat} {listed : Array Bool} (inv : ClosedL md ops listed) (hi : i ∈ Region.ready md ops listed) : ClosedL md ops (listed.setIfInBounds i true) := by
  obtain ⟨_, oi, hoi, hall⟩ := mem_ready.1 hi
  intro j oj hj hl e he hb
  by_cases hij : i = j
  · subst hij
    have : oj = oi := Option.some.inj (hj.symm.trans hoi)
    subst this
    exact getD_set_true (hall e he hb)
  · rw [getD_set_ne false hij] at hl
    exact getD_set_true (inv j oj hj hl e he hb)

theorem ClosedL.waits {listed : Array Bool} (inv : ClosedL md ops listed) {i : Nat} : ∀ (f x : Nat), listed.getD x false = true → Region.waitsT md ops f x i = true → listed.getD i false = true
  | 0, _, _, h => by simp [Region.waitsT] at h
  | f + 1, x, hx, h => by
    unfold Region.waitsT at h
    split at h
    · rename_i o ho
      obtain ⟨e, he, hb⟩ := Array.any_eq_true'.1 h
      simp only [Bool.and_eq_true, Bool.or_eq_true, beq_iff_eq] at hb
      have h1 := inv x o ho hx e he hb.1
      rcases hb.2 with h2 | h2
      · rw [← h2]; exact h1
      · exact ClosedL.waits inv f _ h1 h2
    · cases h

theorem ClosedL.ready_waits {listed : Array Bool} (inv : ClosedL md ops listed) {i t f : Nat} (ht : t ∈ Region.ready md ops listed) (h : Region.waitsT md ops f t i = true) : listed.getD i false = true := by
  obtain ⟨_, o, ho, hall⟩ := mem_ready.1 ht
  cases f with
  | zero => simp [Region.waitsT] at h
  | succ f =>
    unfold Region.waitsT at h
    rw [ho] at h
    obtain ⟨e, he, hb⟩ := Array.any_eq_true'.1 h
    simp only [Bool.and_eq_true, Bool.or_eq_true, beq_iff_eq] at hb
    have h1 := hall e he hb.1
    rcases hb.2 with h2 | h2
    · rw [← h2]; exact h1
    · exact inv.waits f _ h1 h2

def wpAnyC (P : Program) (md : Region.Mode) (ops : Array Oper) (C : World → Prop) (n : Nat) (Q : Exit → Act → World → Prop) : Nat → Array Bool → Act → Prop
  | 0, listed, a => Region.ready md ops listed = [] ∧ ∀ w, C w → Q .normal a w
  | f + 1, listed, a =>
    (Region.ready md ops listed = [] → ∀ w, C w → Q .normal a w) ∧
    ∀ i ∈ Region.ready md ops listed, if i < n then qOp P ops C i (wpAnyC P md ops C n Q f (listed.setIfInBounds i true)) a else ∀ w, C w → wpOp P ops Q i (wpAny P md ops Q f (listed.setIfInBounds i true)) a w

theorem wpAny_of_C {n : Nat} {Q : Exit → Act → World → Prop} : ∀ (f : Nat) (listed : Array Bool) (a : Act) (w : World), C w → wpAnyC P md ops C n Q f listed a → wpAny P md ops Q f listed a w
  | 0, _, _, _, hw, h => ⟨h.1, h.2 _ hw⟩
  | f + 1, listed, a, w, hw, h => ⟨fun h0 => h.1 h0 _ hw, fun i hi => by
      have := h.2 i hi
      split at this
      · exact wpOp_of_qOp hw (fun a' w' hw' h' => wpAny_of_C f _ a' w' hw' h') this
      · exact this w hw⟩

theorem wpAnyC_of_tail {n : Nat} {Q : Exit → Act → World → Prop} (g : Nat) (listed : Array Bool) (a : Act) (hr : ∀ j ∈ Region.ready md ops listed, n ≤ j)
    (w0 : World) (hw0 : C w0) (h : ∀ w, C w → wpAny P md ops Q g listed a w) : wpAnyC P md ops C n Q g listed a := by
  cases g with
  | zero => exact ⟨(h w0 hw0).1, fun w hw => (h w hw).2⟩
  | succ g => exact ⟨fun h0 w hw => (h w hw).1 h0, fun i hi => by rw [if_neg (by have := hr i hi; omega)]; exact fun w hw => (h w hw).2 i hi⟩

theorem yields_of_part {oi : Oper} {v : Value} {a : Act} {w : World} (hp : oi.takesPart = true) (hw : C w) (hy : YieldsIn P ops C oi v a) : Yields P ops oi v a := by
  unfold Oper.takesPart at hp
  simp only [Bool.and_eq_true] at hp
  rcases hy with ⟨h1, h2⟩ | ⟨h1, h2⟩
  · refine .inl ⟨h1, fun w' => ?_⟩
    have h3 := h2 w hw
    unfold Oper.quietAt at h3
    have hop := hp.2
    cases ho : oi.op <;> simp only [ho, Bool.false_eq_true] at hop
    rename_i t k
    simp only [execOp, ho] at h3 ⊢
    unfold Instr.extract at h3 ⊢
    cases ht : a.eval t <;> simp only [ht] at h3 ⊢ <;> try (simp [Oper.quietUpon, stuck, Sem.run] at h3; done)
    rename_i vs
    cases hv : vs[k]? <;> simp only [hv] at h3 ⊢
    · simp [Oper.quietUpon, stuck, Sem.run] at h3
    · simp [Oper.quietUpon, Sem.run] at h3 ⊢
      exact h3
  · exact .inr ⟨h1, h2⟩

theorem wpAnyC_first {n i : Nat} {oi : Oper} {v : Value} {Q : Exit → Act → World → Prop} (w0 : World) (hw0 : C w0) (hQ : ∀ c a w d v, Q (.panic c) (Act.put a d v) w → Q (.panic c) a w)
    (hi : ops[i]? = some oi) (hsel : ∀ (j : Nat) (o : Oper) cs b, ops[j]? = some o → o.op ≠ .select cs b) (hin : i < n)
    (hsink : oi.takesPart = true ∨ ∀ t, n ≤ t → t < ops.size → Region.waitsT md ops ops.size t i = true) :
    ∀ (f : Nat) (listed : Array Bool) (a : Act), ClosedL md ops listed →
      (∀ j oj, ops[j]? = some oj → j ≠ i → listed.getD j true = false → (∀ e ∈ oj.after, Region.binds md e = true → e.on ≠ i) → oi.apart ops oj = true) →
      i ∈ Region.ready md ops listed → YieldsIn P ops C oi v a →
      wpAnyC P md ops C n Q f (listed.setIfInBounds i true) (a.put oi.dst v) → wpAnyC P md ops C n Q (f + 1) listed a := by
  intro f
  induction f with
  | zero =>
    intro listed a inv _ hr hy H
    refine ⟨fun h => (by rw [h] at hr; cases hr), fun j hj => ?_⟩
    by_cases hji : j = i
    · subst hji; rw [if_pos hin]; exact hy.qOp hi H
    · have := ready_mono hj hji
      rw [H.1] at this
      cases this
  | succ f ih =>
    intro listed a inv hfree hr hy H
    refine ⟨fun h => (by rw [h] at hr; cases hr), fun j hj => ?_⟩
    by_cases hji : j = i
    · subst hji; rw [if_pos hin]; exact hy.qOp hi H
    · have h1 := H.2 j (ready_mono hj hji)
      obtain ⟨hjun, oj, hoj, hall⟩ := mem_ready.1 hj
      have hun := (mem_ready.1 hr).1
      have hnot : ∀ e ∈ oj.after, Region.binds md e = true → e.on ≠ i := fun e he hb heq => by
        have h1 := hall e he hb
        rw [heq, getD_both hun] at h1
        cases h1
      have hfree' : ∀ k ok, ops[k]? = some ok → k ≠ i → (listed.setIfInBounds j true).getD k true = false →
          (∀ e ∈ ok.after, Region.binds md e = true → e.on ≠ i) → oi.apart ops ok = true := fun k ok hk hki hun hno => by
        refine hfree k ok hk hki ?_ hno
        by_cases hjk : j = k
        · subst hjk; exact hjun
        · rw [getD_set_ne true hjk] at hun; exact hun
      by_cases hjn : j < n
      · rw [if_pos hjn] at h1 ⊢
        have h2 := qOp_put hoj (hfree j oj hoj hji hjun hnot) (fun cs b => hsel i oi cs b hi) (fun cs b => hsel j oj cs b hoj) hy h1
        refine qOp_mono (fun a' h3 => ih (listed.setIfInBounds j true) a' (inv.set hj) hfree' (ready_mono hr (Ne.symm hji)) h3.1 ?_) h2
        rw [Array.setIfInBounds_comm _ _ hji]
        exact h3.2
      · rw [if_neg hjn] at h1 ⊢
        rcases hsink with hp | hsink
        · intro w hw
          have hy' := yields_of_part hp hw0 hy
          have h2 := wpOp_put hoj (hfree j oj hoj hji hjun hnot) (fun cs b => hsel i oi cs b hi) (fun cs b => hsel j oj cs b hoj) (fun c a w h => hQ c a w _ _ h) hy' (h1 w hw)
          refine wpOp_mono (fun a' w' h3 => wpAny_first hi hsel (fun c a w h => hQ c a w _ _ h) f (listed.setIfInBounds j true) a' w' hfree' (ready_mono hr (Ne.symm hji)) h3.1 ?_) h2
          rw [Array.setIfInBounds_comm _ _ hji]
          exact h3.2
        · have h2 := inv.ready_waits hj (hsink j (by omega) (Array.getElem?_eq_some_iff.1 hoj).1)
          rw [getD_both hun] at h2
          cases h2

theorem wpAnyC_lex {n g : Nat} {Q : Exit → Act → World → Prop} (w0 : World) (hw0 : C w0) (hQ : ∀ c a w d v, Q (.panic c) (Act.put a d v) w → Q (.panic c) a w) (hsel : Region.noSelect ops = true)
    (hs : Region.headB md ops n = true) (tl : List Oper) (htl : ∀ j, tl[j]? = ops[n + j]?) (hg : tl.length = g) :
    ∀ (l : List Oper) (k : Nat) (listed : Array Bool) (a : Act), (∀ j, j < l.length → l[j]? = ops[k + j]?) → k + l.length = n → ClosedL md ops listed →
    Region.lexHead md ops g l.length k listed = true → wpQuiet P ops C (fun a' => ∀ w', C w' → wpList P ops Q tl a' w') l a →
    wpAnyC P md ops C n Q (l.length + g) listed a
  | [], k, listed, a, _, hk, _, hB, h => by
    have : k = n := by simpa using hk
    subst this
    have hB' : Region.seqB md ops g k listed = true := by simpa [Region.lexHead] using hB
    rw [List.length_nil, Nat.zero_add]
    refine wpAnyC_of_tail g listed a (seqB_ready hB') w0 hw0 fun w hw => ?_
    have := wpAny_of_seq (md := md) (Q' := Q) tl k listed a w htl (by rw [hg]; exact hB') (h w hw)
    rwa [hg] at this
  | o :: l, k, listed, a, hl, hk, inv, hB, h => by
    have h0 : ops[k]? = some o := by simpa using (hl 0 (by simp)).symm
    simp only [List.length_cons, Region.lexHead, Bool.and_eq_true] at hB
    obtain ⟨⟨hr, hf⟩, hB'⟩ := hB
    have hkn : k < n := by simp only [List.length_cons] at hk; omega
    have hr' : k ∈ Region.ready md ops listed := by simpa using hr
    have hst : qOp P ops C k (wpQuiet P ops C (fun a' => ∀ w', C w' → wpList P ops Q tl a' w') l) a := by unfold qOp; simp only [h0]; exact h
    obtain ⟨v, hy, hK⟩ := yieldsIn_of_qOp h0 hst
    have hsink : o.takesPart = true ∨ ∀ t, n ≤ t → t < ops.size → Region.waitsT md ops ops.size t k = true := by
      have h1 := List.all_eq_true.1 hs k (List.mem_range.2 hkn)
      simp only [h0, Option.map_some, Option.getD_some, Bool.or_eq_true] at h1
      rcases h1 with h1 | h1
      · exact .inl h1
      · refine .inr fun t ht htl => ?_
        have h2 := List.all_eq_true.1 h1 t (List.mem_range.2 htl)
        simp only [Bool.or_eq_true, decide_eq_true_eq] at h2
        rcases h2 with h2 | h2
        · omega
        · exact h2
    have := wpAnyC_first w0 hw0 hQ h0 (Region.noSelect_spec hsel) hkn hsink (l.length + g) listed a inv (Region.free_spec h0 hf) hr' hy
      (wpAnyC_lex w0 hw0 hQ hsel hs tl htl hg l (k + 1) _ _ (fun j hj => by have := hl (j + 1) (by simp; omega); simpa [Nat.add_assoc, Nat.add_comm 1 j] using this) (by simp only [List.length_cons] at hk; omega) (inv.set hr') hB' hK)
    rw [List.length_cons, show l.length + 1 + g = l.length + g + 1 by omega]
    exact this

theorem wp_region_pure_tailC {id : Nat} {Q : Exit → Act → World → Prop} {a : Act} {w : World} {l : List Oper} (n : Nat) (hm : P.follows .mixedOrders = true) (hB : Region.mixB .any l.toArray n = true)
    (hQ : ∀ c a w d v, Q (.panic c) (Act.put a d v) w → Q (.panic c) a w) (hC : C { w with drawn := w.drawn + 1 })
    (h : wpQuiet P l.toArray C (fun a' => ∀ w', C w' → wpList P l.toArray Q (l.drop n) a' w') (l.take n) a) : (Code.region id l.toArray true).wp P Q a w := by
  simp only [Region.mixB, Bool.and_eq_true, decide_eq_true_eq] at hB
  obtain ⟨⟨⟨hsel, hn⟩, hs⟩, hlex⟩ := hB
  have hn' : n ≤ l.length := by simpa using hn
  have htl : (l.take n).length = n := by simp; omega
  have hdl : (l.drop n).length = l.toArray.size - n := by simp
  have inv0 : ClosedL .any l.toArray (Array.replicate l.toArray.size false) := fun j oj _ hl => (by rw [getD_replicate_false] at hl; cases hl)
  refine wp_region_any hm (wpAny_of_C (n := n) (C := C) _ _ _ _ hC ?_)
  have H := wpAnyC_lex (md := .any) (g := l.toArray.size - n) _ hC hQ hsel hs (l.drop n) (fun j => by simp [List.getElem?_drop]) hdl (l.take n) 0 _ a (fun j hj => by
    have hj' : j < n := by rw [htl] at hj; exact hj
    simp [hj']) (by simpa using htl) inv0 (by rw [htl]; exact hlex) h
  rw [htl, show n + (l.toArray.size - n) = l.toArray.size by omega] at H
  exact H

/-- The first 'n' operations leave what was as it was, and may come in whatever order their edges allow; behind them stands a tail in one order. -/
theorem wp_region_pure_tail {id : Nat} {Q : Exit → Act → World → Prop} {a : Act} {w : World} {l : List Oper} (n : Nat) (hm : P.follows .mixedOrders = true) (hB : Region.mixB .any l.toArray n = true)
    (hQ : ∀ c a w d v, Q (.panic c) (Act.put a d v) w → Q (.panic c) a w)
    (h : wpQuiet P l.toArray (fun w' => ∃ n, w' = w.grow n) (fun a' => ∀ w', (∃ n, w' = w.grow n) → wpList P l.toArray Q (l.drop n) a' w') (l.take n) a) : (Code.region id l.toArray true).wp P Q a w :=
  wp_region_pure_tailC n hm hB hQ ⟨_, drew_is_grow w⟩ h
theorem wp_region_pure_tail_g {id : Nat} {Q : Exit → Act → World → Prop} {a : Act} {w : World} {δ : Junk} {l : List Oper} (n : Nat) (hm : P.follows .mixedOrders = true) (hB : Region.mixB .any l.toArray n = true)
    (hQ : ∀ c a w d v, Q (.panic c) (Act.put a d v) w → Q (.panic c) a w)
    (h : wpQuiet P l.toArray (fun w' => ∃ n, w' = w.grow n) (fun a' => ∀ w', (∃ n, w' = w.grow n) → wpList P l.toArray Q (l.drop n) a' w') (l.take n) a) : (Code.region id l.toArray true).wp P Q a (w.grow δ) :=
  wp_region_pure_tailC n hm hB hQ ⟨_, grow_drew w δ⟩ h
end

/-! ### Arrays of integers, held against one another -/
section
variable {P : Program} (w : World)
theorem run_part_int {e : TypeId} {k : IntKind} (he : P.underlying e = some (.int k)) (cs : Array Value) (i : Nat) (v : Value) (hv : cs[i]? = some v) : (part e cs i).run P w = .ok v w := by
  simp [part, isAgg, run_underlying he, hv]
theorem run_eqItems_ints {e : TypeId} {k k' : IntKind} (d : Nat) (he : P.underlying e = some (.int k')) (xs ys : List Int) : ∀ (is : List Nat), (∀ i ∈ is, i < xs.length ∧ i < ys.length) →
    (Op.eqItems (d + 1) e 1 (xs.map (Value.int k)).toArray (ys.map (Value.int k)).toArray is).run P w = .ok (is.all fun i => xs.getD i 0 == ys.getD i 0) w
  | [], _ => by simp [Op.eqItems]
  | i :: is, h => by
    obtain ⟨h1, h2⟩ := h i (by simp)
    have ih := run_eqItems_ints (k := k) d he xs ys is (fun j hj => h j (by simp [hj]))
    have p1 : (part e (xs.map (Value.int k)).toArray (i * 1)).run P w = .ok (.int k (xs.getD i 0)) w := run_part_int w he _ _ _ (by simp [h1])
    have p2 : (part e (ys.map (Value.int k)).toArray (i * 1)).run P w = .ok (.int k (ys.getD i 0)) w := run_part_int w he _ _ _ (by simp [h2])
    simp only [Op.eqItems, Sem.run_bind, p1, p2, Result.andThen_ok, run_equalIn_int w d e k k' _ _ he, List.all_cons]
    cases hb : (xs.getD i 0 == ys.getD i 0)
    · simp
    · simp only [Bool.not_true, Bool.false_eq_true, if_false, Bool.true_and]; exact ih
theorem run_equalIn_ints {t e : TypeId} {k k' : IntKind} {n : Nat} (d : Nat) (ht : P.underlying t = some (.array n e)) (he : P.underlying e = some (.int k')) (hc : P.cellsOf e = 1) (xs ys : List Int) (hx : xs.length = n) (hy : ys.length = n) :
    (Op.equalIn (d + 2) t (.agg (xs.map (Value.int k)).toArray) (.agg (ys.map (Value.int k)).toArray)).run P w = .ok (decide (xs = ys)) w := by
  obtain ⟨i, hi⟩ := info_of_underlying he
  rw [run_equalIn_array w (d + 1) _ _ ht hi, hc, run_eqItems_ints w d he xs ys (List.range n) (fun i hi => by have := List.mem_range.1 hi; omega)]
  congr 1
  rw [Bool.eq_iff_iff, decide_eq_true_eq, List.all_eq_true]
  constructor
  · intro h
    apply List.ext_getElem (by omega)
    intro i h1 h2
    have := h i (List.mem_range.2 (by omega))
    simpa [h1, h2] using this
  · intro h i _
    simp [h]
end
end Go
/- Numbers below 2^256 as four parts of 64 bits. No program in sight. -/
namespace Go.Proofs.Ytccadhfeiehmbaa
set_option linter.unusedVariables false
set_option linter.unusedSimpArgs false

/-- Part 'i' of a number. -/
def lb (x i : Nat) : Nat := (x >>> (64 * i)) % 2 ^ 64
theorem lb_lt (x i : Nat) : lb x i < 18446744073709551616 := Nat.mod_lt _ (by decide)
theorem lb_bit (x i k : Nat) : (lb x i).testBit k = (decide (k < 64) && x.testBit (64 * i + k)) := by
  unfold lb; rw [Nat.testBit_mod_two_pow, Nat.testBit_shiftRight]
/-- The cells of a number. -/
def wv (x : Nat) : Array Value := #[.int .u64 (lb x 0), .int .u64 (lb x 1), .int .u64 (lb x 2), .int .u64 (lb x 3)]
theorem wv_size (x : Nat) : (wv x).size = 4 := rfl
theorem wv_get0 (x : Nat) : (wv x)[0]? = some (.int .u64 (lb x 0)) := rfl
theorem wv_get1 (x : Nat) : (wv x)[1]? = some (.int .u64 (lb x 1)) := rfl
theorem wv_get2 (x : Nat) : (wv x)[2]? = some (.int .u64 (lb x 2)) := rfl
theorem wv_get3 (x : Nat) : (wv x)[3]? = some (.int .u64 (lb x 3)) := rfl
theorem wv_toList (x : Nat) : (wv x).toList = [.int .u64 (lb x 0), .int .u64 (lb x 1), .int .u64 (lb x 2), .int .u64 (lb x 3)] := rfl
theorem wv_fold (x : Nat) : #[Value.int .u64 (lb x 0), Value.int .u64 (lb x 1), Value.int .u64 (lb x 2), Value.int .u64 (lb x 3)] = wv x := rfl
theorem wv_zero : #[Value.int .u64 0, Value.int .u64 0, Value.int .u64 0, Value.int .u64 0] = wv 0 := rfl
theorem wv_set0 (x : Nat) (v : Value) : (wv x).setIfInBounds 0 v = #[v, .int .u64 (lb x 1), .int .u64 (lb x 2), .int .u64 (lb x 3)] := rfl
theorem wv_set1 (x : Nat) (v : Value) : (wv x).setIfInBounds 1 v = #[.int .u64 (lb x 0), v, .int .u64 (lb x 2), .int .u64 (lb x 3)] := rfl
theorem wv_set2 (x : Nat) (v : Value) : (wv x).setIfInBounds 2 v = #[.int .u64 (lb x 0), .int .u64 (lb x 1), v, .int .u64 (lb x 3)] := rfl
theorem wv_set3 (x : Nat) (v : Value) : (wv x).setIfInBounds 3 v = #[.int .u64 (lb x 0), .int .u64 (lb x 1), .int .u64 (lb x 2), v] := rfl
attribute [go_sem] wv_set0 wv_set1 wv_set2 wv_set3 wv_size wv_get0 wv_get1 wv_get2 wv_get3 wv_toList wv_fold
/-- The number of four parts. -/
def w4 (a b c d : Nat) : Nat := a + 18446744073709551616 * b + 340282366920938463463374607431768211456 * c + 6277101735386680763835789423207666416102355444464034512896 * d
theorem lb0 (x : Nat) : lb x 0 = x % 18446744073709551616 := rfl
theorem lb1 (x : Nat) : lb x 1 = x / 18446744073709551616 % 18446744073709551616 := by simp [lb, Nat.shiftRight_eq_div_pow]
theorem lb2 (x : Nat) : lb x 2 = x / 340282366920938463463374607431768211456 % 18446744073709551616 := by simp [lb, Nat.shiftRight_eq_div_pow]
theorem lb3 (x : Nat) : lb x 3 = x / 6277101735386680763835789423207666416102355444464034512896 % 18446744073709551616 := by simp [lb, Nat.shiftRight_eq_div_pow]
/-- 2^256. -/
def B256 : Nat := 115792089237316195423570985008687907853269984665640564039457584007913129639936
theorem w4_lb (x : Nat) : w4 (lb x 0) (lb x 1) (lb x 2) (lb x 3) = x % B256 := by
  unfold w4 B256; rw [lb0, lb1, lb2, lb3]; omega
theorem lb_w4 {a b c d : Nat} (ha : a < 18446744073709551616) (hb : b < 18446744073709551616) (hc : c < 18446744073709551616) (hd : d < 18446744073709551616) :
    lb (w4 a b c d) 0 = a ∧ lb (w4 a b c d) 1 = b ∧ lb (w4 a b c d) 2 = c ∧ lb (w4 a b c d) 3 = d := by
  rw [lb0, lb1, lb2, lb3]; unfold w4; omega
theorem w4_lt {a b c d : Nat} (ha : a < 18446744073709551616) (hb : b < 18446744073709551616) (hc : c < 18446744073709551616) (hd : d < 18446744073709551616) :
    w4 a b c d < B256 := by unfold w4 B256; omega
theorem wv_w4 {a b c d : Nat} (ha : a < 18446744073709551616) (hb : b < 18446744073709551616) (hc : c < 18446744073709551616) (hd : d < 18446744073709551616) :
    #[Value.int .u64 a, Value.int .u64 b, Value.int .u64 c, Value.int .u64 d] = wv (w4 a b c d) := by
  obtain ⟨h0, h1, h2, h3⟩ := lb_w4 ha hb hc hd
  unfold wv; rw [h0, h1, h2, h3]
theorem wv_mod (x : Nat) : wv (x % B256) = wv x := by
  have h0 : lb (x % B256) 0 = lb x 0 := by rw [lb0, lb0]; unfold B256; omega
  have h1 : lb (x % B256) 1 = lb x 1 := by rw [lb1, lb1]; unfold B256; omega
  have h2 : lb (x % B256) 2 = lb x 2 := by rw [lb2, lb2]; unfold B256; omega
  have h3 : lb (x % B256) 3 = lb x 3 := by rw [lb3, lb3]; unfold B256; omega
  unfold wv; rw [h0, h1, h2, h3]
theorem lb_inj {x y : Nat} (h0 : lb x 0 = lb y 0) (h1 : lb x 1 = lb y 1) (h2 : lb x 2 = lb y 2) (h3 : lb x 3 = lb y 3) : x % B256 = y % B256 := by
  rw [← w4_lb, ← w4_lb, h0, h1, h2, h3]
theorem lb_congr {x y : Nat} (h : x % B256 = y % B256) : lb x 0 = lb y 0 ∧ lb x 1 = lb y 1 ∧ lb x 2 = lb y 2 ∧ lb x 3 = lb y 3 := by
  unfold B256 at h; rw [lb0, lb1, lb2, lb3, lb0, lb1, lb2, lb3]; omega
theorem wv_inj {x y : Nat} : wv x = wv y ↔ x % B256 = y % B256 := by
  constructor
  · intro h
    unfold wv at h
    simp only [Array.mk.injEq, List.cons.injEq, Value.int.injEq, true_and, and_true] at h
    exact lb_inj (by omega) (by omega) (by omega) (by omega)
  · intro h; rw [← wv_mod, h, wv_mod]

/-- Part 'i', or 0 beside all. -/
def atL (x : Nat) (i : Int) : Nat := if i < 0 ∨ 4 ≤ i then 0 else lb x i.toNat
theorem atL_lt (x : Nat) (i : Int) : atL x i < 18446744073709551616 := by unfold atL; split; decide; exact lb_lt _ _
theorem atL_bit (x : Nat) (h : x < B256) (i : Int) (k : Nat) : (atL x i).testBit k = (decide (k < 64) && decide (0 ≤ i) && x.testBit (64 * i.toNat + k)) := by
  unfold atL
  split
  · rename_i hi
    rcases hi with hi | hi
    · have : ¬ 0 ≤ i := by omega
      simp [this]
    · have : x.testBit (64 * i.toNat + k) = false := Nat.testBit_lt_two_pow (Nat.lt_of_lt_of_le (show x < 2 ^ 256 from h) (Nat.pow_le_pow_right (by decide) (by omega)))
      simp [this]
  · rename_i hi
    have : 0 ≤ i := by omega
    rw [lb_bit]; simp [this]

/-- What two parts make of a part that moves up by less than 64 bits. -/
def upl (x y s : Nat) : Nat := (x <<< s) % 2 ^ 64 ||| y >>> (64 - s)
theorem up_part' (x q s i : Nat) (hs : s < 64) (hx : x < B256) (hi : i < 4) : lb (x <<< (64 * q + s)) i = upl (atL x ((i : Int) - q)) (atL x ((i : Int) - q - 1)) s := by
  apply Nat.eq_of_testBit_eq
  intro k
  rw [lb_bit, upl, Nat.testBit_or, Nat.testBit_mod_two_pow, Nat.testBit_shiftLeft, Nat.testBit_shiftLeft, Nat.testBit_shiftRight, atL_bit x hx, atL_bit x hx]
  by_cases hk : k < 64
  · by_cases h1 : 64 * q + s ≤ 64 * i + k
    · by_cases h2 : s ≤ k
      · have e1 : 64 * ((i : Int) - q).toNat + (k - s) = 64 * i + k - (64 * q + s) := by omega
        have h3 : (0 : Int) ≤ (i : Int) - q := by omega
        have h4 : k - s < 64 := by omega
        have h5 : ¬ (64 - s + k < 64) := by omega
        rw [e1]
        simp only [hk, h1, h2, h3, h4, h5, decide_true, decide_false, Bool.true_and, Bool.false_and, Bool.or_false, ge_iff_le]
      · have e1 : 64 * ((i : Int) - q - 1).toNat + (64 - s + k) = 64 * i + k - (64 * q + s) := by omega
        have h3 : (0 : Int) ≤ (i : Int) - q - 1 := by omega
        have h5 : (64 - s + k < 64) := by omega
        rw [e1]
        simp only [hk, h1, h2, h3, h5, decide_true, decide_false, Bool.true_and, Bool.false_and, Bool.false_or, ge_iff_le]
    · have h3 : ¬ (0 : Int) ≤ (i : Int) - q - 1 := by omega
      by_cases h6 : s ≤ k
      · have h7 : ¬ (0 : Int) ≤ (i : Int) - q := by omega
        simp only [hk, h1, h3, h7, decide_true, decide_false, Bool.true_and, Bool.false_and, Bool.and_false, Bool.false_or, ge_iff_le]
      · simp only [hk, h1, h3, h6, decide_true, decide_false, Bool.true_and, Bool.false_and, Bool.and_false, Bool.false_or, ge_iff_le]
  · have h5 : ¬ (64 - s + k < 64) := by omega
    simp only [hk, h5, decide_false, Bool.false_and, Bool.false_or]
theorem up_part (x n i : Nat) (hx : x < B256) (hi : i < 4) : lb (x <<< n) i = upl (atL x ((i : Int) - (n / 64 : Nat))) (atL x ((i : Int) - (n / 64 : Nat) - 1)) (n % 64) := by
  have := up_part' x (n / 64) (n % 64) i (by omega) hx hi
  rwa [show 64 * (n / 64) + n % 64 = n by omega] at this

/-- What two parts make of a part that moves down by less than 64 bits. -/
def dnl (x y s : Nat) : Nat := x >>> s ||| (y <<< (64 - s)) % 2 ^ 64
theorem down_part' (x q s i : Nat) (hs : s < 64) (hx : x < B256) (hi : i < 4) : lb (x >>> (64 * q + s)) i = dnl (atL x ((i : Int) + q)) (atL x ((i : Int) + q + 1)) s := by
  apply Nat.eq_of_testBit_eq
  intro k
  rw [lb_bit, dnl, Nat.testBit_or, Nat.testBit_mod_two_pow, Nat.testBit_shiftLeft, Nat.testBit_shiftRight, Nat.testBit_shiftRight, atL_bit x hx, atL_bit x hx]
  have p1 : (0 : Int) ≤ (i : Int) + q := by omega
  have p2 : (0 : Int) ≤ (i : Int) + q + 1 := by omega
  by_cases hk : k < 64
  · by_cases h2 : s + k < 64
    · have e1 : 64 * ((i : Int) + q).toNat + (s + k) = 64 * q + s + (64 * i + k) := by omega
      have h3 : ¬ (64 - s ≤ k) := by omega
      rw [e1]
      simp only [hk, h2, p1, p2, h3, decide_true, decide_false, Bool.true_and, Bool.false_and, Bool.or_false, Bool.and_false, ge_iff_le]
    · have e1 : 64 * ((i : Int) + q + 1).toNat + (k - (64 - s)) = 64 * q + s + (64 * i + k) := by omega
      have h3 : (64 - s ≤ k) := by omega
      have h4 : k - (64 - s) < 64 := by omega
      rw [e1]
      simp only [hk, h2, p1, p2, h3, h4, decide_true, decide_false, Bool.true_and, Bool.false_and, Bool.false_or, ge_iff_le]
  · have h5 : ¬ (s + k < 64) := by omega
    simp only [hk, h5, decide_false, Bool.false_and, Bool.false_or]
theorem down_part (x n i : Nat) (hx : x < B256) (hi : i < 4) : lb (x >>> n) i = dnl (atL x ((i : Int) + (n / 64 : Nat))) (atL x ((i : Int) + (n / 64 : Nat) + 1)) (n % 64) := by
  have := down_part' x (n / 64) (n % 64) i (by omega) hx hi
  rwa [show 64 * (n / 64) + n % 64 = n by omega] at this
end Go.Proofs.Ytccadhfeiehmbaa
/- Regions that draw their order, in which steps that make or write memory stand beside calls: each such step is run in whatever world the calls have left so far. No program in sight. -/
namespace Go
set_option linter.unusedVariables false
set_option linter.unusedSimpArgs false
open Go.RowKit
section
variable {P : Program} {ops : Array Oper} {md : Region.Mode} {H : World → Prop}

/-- In every world of the class 'o' yields 'v', and leaves what was as it was. -/
def GivesIn (P : Program) (ops : Array Oper) (H : World → Prop) (o : Oper) (v : Value) (a : Act) : Prop :=
  (Region.wanted o (yielded ops a.tmps) = true ∧ ∀ w, H w → o.quietAt P a (fun w' => Grew w w') w v) ∨
  (Region.wanted o (yielded ops a.tmps) = false ∧ v = undef)

theorem GivesIn.of_same {o : Oper} {v : Value} {a a' : Act} (hy : GivesIn P ops H o v a) (he : execOp a'.eval o = execOp a.eval o)
    (hw : Region.wanted o (yielded ops a'.tmps) = Region.wanted o (yielded ops a.tmps)) : GivesIn P ops H o v a' := by
  unfold GivesIn Oper.quietAt at *
  rw [he, hw]
  exact hy

theorem GivesIn.keep {oi oj : Oper} {v : Value} {a : Act} (hap : oi.apart ops oj = true) (hsi : ∀ cs b, oi.op ≠ .select cs b) (hy : GivesIn P ops H oi v a) (u : Value) : GivesIn P ops H oi v (a.put oj.dst u) := by
  obtain ⟨_, _, h3⟩ := Oper.apart_spec hap
  exact hy.of_same (execOp_put oi hsi a oj.dst u h3) (wanted_put oi a oj.dst u h3)

/-- 'oj' is carried out ahead of 'oi', which gives its value all the same. -/
theorem wpOp_putG {j : Nat} {Q : Exit → Act → World → Prop} {oi oj : Oper} {v : Value} (hj : ops[j]? = some oj) (hap : oi.apart ops oj = true)
    (hsi : ∀ cs b, oi.op ≠ .select cs b) (hsj : ∀ cs b, oj.op ≠ .select cs b)
    (hQ : ∀ c a w d v, Q (.panic c) (Act.put a d v) w → Q (.panic c) a w) {K : Act → World → Prop} {a : Act} {w : World}
    (hy : GivesIn P ops H oi v a) (h : wpOp P ops Q j K (a.put oi.dst v) w) :
    wpOp P ops Q j (fun a' w' => GivesIn P ops H oi v a' ∧ K (a'.put oi.dst v) w') a w := by
  obtain ⟨h1, h2, h3⟩ := Oper.apart_spec hap
  have keep : ∀ (a : Act), GivesIn P ops H oi v a → ∀ u, GivesIn P ops H oi v (a.put oj.dst u) := fun a hy u => hy.keep hap hsi u
  have keepD : ∀ d, GivesIn P ops H oi v { a with defers := d :: a.defers } := fun d => hy.of_same rfl rfl
  unfold wpOp at *
  simp only [hj] at *
  rw [wanted_put oj a oi.dst v h1] at h
  split
  · rename_i hw
    simp only [hw, if_true] at h
    rcases h with h | ⟨hasks, hlets⟩
    case inr => exact .inr ⟨by unfold Oper.asks at *; rw [execOp_put oj hsj a oi.dst v h1] at hasks; exact hasks, hlets⟩
    refine .inl ?_
    unfold Oper.wp at *
    rw [execOp_put oj hsj a oi.dst v h1] at h
    generalize (execOp a.eval oj).run P w = r at *
    cases r with
    | ok n w' =>
      cases n <;> simp only [Oper.upon] at h ⊢
      case value u => exact ⟨keep a hy u, by rw [← Act.put_comm a v u h2]; exact h⟩
      case skip => exact ⟨keep a hy _, by rw [← Act.put_comm a v undef h2]; exact h⟩
      case defer d =>
        refine ⟨keep _ (keepD d) _, ?_⟩
        rw [← Act.put_comm _ v undef h2, ← Act.put_defers]
        exact h
      case enter f args =>
        refine Calls.mono h fun e w'' he => ?_
        cases e with
        | returned u => exact ⟨keep a hy u, by rw [← Act.put_comm a v u h2]; exact he⟩
        | panicked c => exact hQ _ _ _ _ _ he
        | outgrown => exact he
      case row row args => exact Rows.mono h fun u w'' he => ⟨keep a hy u, by rw [← Act.put_comm a v u h2]; exact he⟩
    | halt x w' =>
      cases x <;> simp only [Oper.upon] at h ⊢
      case panic u => exact hQ _ _ _ _ _ h
  · rename_i hw
    simp only [hw] at h
    exact ⟨keep a hy _, by rw [← Act.put_comm a v undef h2]; exact h⟩

/-- Whatever order comes: a step of 'es' is carried out in whatever world has come meanwhile. -/
def wpAnyE (P : Program) (md : Region.Mode) (ops : Array Oper) (H : World → Prop) (es : List Nat) (Q : Exit → Act → World → Prop) : Nat → Array Bool → Act → World → Prop
  | 0, listed, a, w => Region.ready md ops listed = [] ∧ ∀ w', Grew w w' → H w' → Q .normal a w'
  | f + 1, listed, a, w =>
    (Region.ready md ops listed = [] → ∀ w', Grew w w' → H w' → Q .normal a w') ∧
    ∀ i ∈ Region.ready md ops listed,
      if es.contains i then ∀ w', Grew w w' → H w' → wpOp P ops Q i (fun a' w'' => H w'' ∧ wpAnyE P md ops H es Q f (listed.setIfInBounds i true) a' w'') a w'
      else ∃ o v, ops[i]? = some o ∧ GivesIn P ops H o v a ∧ wpAnyE P md ops H es Q f (listed.setIfInBounds i true) (a.put o.dst v) w

theorem wpAnyE_mono {es : List Nat} {Q : Exit → Act → World → Prop} : ∀ (f : Nat) (listed : Array Bool) (a : Act) (w w' : World), Grew w w' → wpAnyE P md ops H es Q f listed a w → wpAnyE P md ops H es Q f listed a w'
  | 0, _, _, _, _, hg, h => ⟨h.1, fun w'' hg' => h.2 w'' (hg.trans hg')⟩
  | f + 1, listed, a, w, w', hg, h => ⟨fun h0 w'' hg' => h.1 h0 w'' (hg.trans hg'), fun i hi => by
      have := h.2 i hi
      split at this
      · rename_i he; rw [if_pos he]; exact fun w'' hg' => this w'' (hg.trans hg')
      · rename_i he; rw [if_neg he]
        obtain ⟨o, v, ho, hy, hk⟩ := this
        exact ⟨o, v, ho, hy, wpAnyE_mono f _ _ _ _ hg hk⟩⟩

theorem wpOp_of_gives {i : Nat} {o : Oper} {v : Value} {a : Act} {w : World} {Q : Exit → Act → World → Prop} {K : Act → World → Prop} (hi : ops[i]? = some o) (hy : GivesIn P ops H o v a) (hw : H w)
    (h : ∀ w', Grew w w' → K (a.put o.dst v) w') : wpOp P ops Q i K a w := by
  unfold wpOp
  simp only [hi]
  rcases hy with ⟨h1, h2⟩ | ⟨h1, rfl⟩
  · simp only [h1, if_true]
    refine .inl ?_
    have h3 := h2 w hw
    unfold Oper.quietAt at h3
    unfold Oper.wp
    generalize (execOp a.eval o).run P w = r at *
    cases r with
    | ok n w' =>
      cases n <;> simp only [Oper.quietUpon] at h3 <;> simp only [Oper.upon]
      case value u => obtain ⟨e1, e2⟩ := h3; rw [e1, e2]; exact h _ (Grew.refl _)
      case skip => obtain ⟨e1, e2⟩ := h3; rw [e1, ← e2]; exact h _ (Grew.refl _)
      case enter f args =>
        obtain ⟨e1, hc⟩ := h3
        rw [e1]
        exact hc.mono fun e w'' ⟨he, hw''⟩ => by subst he; exact h _ hw''
    | halt x w' => simp only [Oper.quietUpon] at h3
  · simp only [h1, Bool.false_eq_true, if_false]; exact h _ (Grew.refl _)

theorem wpAny_of_E (hH : ∀ w w', H w → Grew w w' → H w') {es : List Nat} {Q : Exit → Act → World → Prop} : ∀ (f : Nat) (listed : Array Bool) (a : Act) (w : World), H w → wpAnyE P md ops H es Q f listed a w → wpAny P md ops Q f listed a w
  | 0, _, _, w, hw, h => ⟨h.1, h.2 w (Grew.refl _) hw⟩
  | f + 1, listed, a, w, hw, h => ⟨fun h0 => h.1 h0 w (Grew.refl _) hw, fun i hi => by
      have := h.2 i hi
      split at this
      · exact wpOp_mono (fun a' w' h' => wpAny_of_E hH f _ a' w' h'.1 h'.2) (this w (Grew.refl _) hw)
      · obtain ⟨o, v, ho, hy, hk⟩ := this
        exact wpOp_of_gives ho hy hw fun w' hg => wpAny_of_E hH f _ _ w' (hH w w' hw hg) (wpAnyE_mono f _ _ _ _ hg hk)⟩

theorem wpAnyE_first {es : List Nat} {i : Nat} {oi : Oper} {v : Value} {Q : Exit → Act → World → Prop} (hQ : ∀ c a w d v, Q (.panic c) (Act.put a d v) w → Q (.panic c) a w)
    (hi : ops[i]? = some oi) (hsel : ∀ (j : Nat) (o : Oper) cs b, ops[j]? = some o → o.op ≠ .select cs b) (hin : es.contains i = false) :
    ∀ (f : Nat) (listed : Array Bool) (a : Act) (w : World),
      (∀ j oj, ops[j]? = some oj → j ≠ i → listed.getD j true = false → (∀ e ∈ oj.after, Region.binds md e = true → e.on ≠ i) → oi.apart ops oj = true) →
      i ∈ Region.ready md ops listed → GivesIn P ops H oi v a →
      wpAnyE P md ops H es Q f (listed.setIfInBounds i true) (a.put oi.dst v) w → wpAnyE P md ops H es Q (f + 1) listed a w := by
  intro f
  induction f with
  | zero =>
    intro listed a w _ hr hy Hh
    refine ⟨fun h => (by rw [h] at hr; cases hr), fun j hj => ?_⟩
    by_cases hji : j = i
    · subst hji; rw [if_neg (by rw [hin]; exact Bool.false_ne_true)]; exact ⟨oi, v, hi, hy, Hh⟩
    · have := ready_mono hj hji
      rw [Hh.1] at this
      cases this
  | succ f ih =>
    intro listed a w hfree hr hy Hh
    refine ⟨fun h => (by rw [h] at hr; cases hr), fun j hj => ?_⟩
    by_cases hji : j = i
    · subst hji; rw [if_neg (by rw [hin]; exact Bool.false_ne_true)]; exact ⟨oi, v, hi, hy, Hh⟩
    · have h1 := Hh.2 j (ready_mono hj hji)
      obtain ⟨hjun, oj, hoj, hall⟩ := mem_ready.1 hj
      have hun := (mem_ready.1 hr).1
      have hnot : ∀ e ∈ oj.after, Region.binds md e = true → e.on ≠ i := fun e he hb heq => by
        have h1 := hall e he hb
        rw [heq, getD_both hun] at h1
        cases h1
      have hfree' : ∀ k ok, ops[k]? = some ok → k ≠ i → (listed.setIfInBounds j true).getD k true = false →
          (∀ e ∈ ok.after, Region.binds md e = true → e.on ≠ i) → oi.apart ops ok = true := fun k ok hk hki hun hno => by
        refine hfree k ok hk hki ?_ hno
        by_cases hjk : j = k
        · subst hjk; exact hjun
        · rw [getD_set_ne true hjk] at hun; exact hun
      have hap := hfree j oj hoj hji hjun hnot
      by_cases hje : es.contains j = true
      · rw [if_pos hje] at h1 ⊢
        intro w' hg hw'
        have h2 := wpOp_putG hoj hap (fun cs b => hsel i oi cs b hi) (fun cs b => hsel j oj cs b hoj) hQ hy (h1 w' hg hw')
        refine wpOp_mono (fun a' w'' h3 => ⟨h3.2.1, ih (listed.setIfInBounds j true) a' w'' hfree' (ready_mono hr (Ne.symm hji)) h3.1 ?_⟩) h2
        rw [Array.setIfInBounds_comm _ _ hji]
        exact h3.2.2
      · rw [if_neg hje] at h1 ⊢
        obtain ⟨o', u, ho', hu, hk⟩ := h1
        have : oj = o' := Option.some.inj (hoj.symm.trans ho')
        subst this
        obtain ⟨g1, g2, g3⟩ := Oper.apart_spec hap
        refine ⟨oj, u, hoj, ?_, ih (listed.setIfInBounds j true) _ w hfree' (ready_mono hr (Ne.symm hji)) (hy.keep hap (fun cs b => hsel i oi cs b hi) u) ?_⟩
        · exact hu.of_same (execOp_put oj (fun cs b => hsel j oj cs b hoj) a oi.dst v g1).symm (wanted_put oj a oi.dst v g1).symm
        · rw [Array.setIfInBounds_comm _ _ hji, ← Act.put_comm a v u g2]
          exact hk

/-! ### The lexical walk: each quiet operation gives the value that the frame at the end bears -/
/-- The steps that are no step of 'es', in the text's order, give what 'A' bears. -/
def givesAll (P : Program) (ops : Array Oper) (H : World → Prop) (A : Act) : List Nat → Act → Prop
  | [], a => a = A
  | i :: rest, a => ∃ o d, ops[i]? = some o ∧ o.dst = some d ∧ GivesIn P ops H o (A.tmps.getD d undef) a ∧ givesAll P ops H A rest (a.put (some d) (A.tmps.getD d undef))

/-- The steps of 'es', each in whatever world has come meanwhile. -/
def wpEnv (P : Program) (ops : Array Oper) (H : World → Prop) (Q : Exit → Act → World → Prop) : List Oper → Act → World → Prop
  | [], a, w => ∀ w', Grew w w' → H w' → Q .normal a w'
  | o :: rest, a, w => ∀ w', Grew w w' → H w' → wpList P ops (Exit.then (fun a' w'' => H w'' ∧ wpEnv P ops H Q rest a' w'') Q) [o] a w'

def Region.envSeq (md : Region.Mode) (ops : Array Oper) : List Nat → Array Bool → Bool
  | [], listed => (Region.ready md ops listed).isEmpty
  | k :: ks, listed => decide (Region.ready md ops listed = [k]) && Region.envSeq md ops ks (listed.setIfInBounds k true)
def Region.envLex (md : Region.Mode) (ops : Array Oper) (es : List Nat) : List Nat → Array Bool → Bool
  | [], listed => Region.envSeq md ops es listed
  | k :: ks, listed => (Region.ready md ops listed).contains k && Region.free md ops listed k && !es.contains k && Region.envLex md ops es ks (listed.setIfInBounds k true)

theorem wpAnyE_of_env {es : List Nat} {Q : Exit → Act → World → Prop} : ∀ (ks : List Nat) (ol : List Oper) (listed : Array Bool) (a : Act) (w : World), (∀ k ∈ ks, es.contains k = true) → ks.map (fun k => ops[k]?) = ol.map some →
    Region.envSeq md ops ks listed = true → wpEnv P ops H Q ol a w → wpAnyE P md ops H es Q ks.length listed a w
  | [], ol, listed, a, w, _, ho, hB, h => by
    cases ol with
    | nil => exact ⟨by simpa [Region.envSeq] using hB, h⟩
    | cons o l => simp at ho
  | k :: ks, ol, listed, a, w, hes, ho, hB, h => by
    cases ol with
    | nil => simp at ho
    | cons o l =>
      simp only [List.map_cons, List.cons.injEq] at ho
      simp only [Region.envSeq, Bool.and_eq_true, decide_eq_true_eq] at hB
      refine ⟨fun h1 => (by rw [hB.1] at h1; cases h1), fun i hi => ?_⟩
      rw [hB.1] at hi
      have hik : i = k := by simpa using hi
      subst hik
      rw [if_pos (hes i (by simp))]
      intro w' hg hw'
      have h1 := h w' hg hw'
      unfold wpOp
      simp only [ho.1]
      unfold wpList at h1
      split at h1
      · rename_i hw
        rw [if_pos hw]
        rcases h1 with h1 | ⟨h1, a2, w2, h2⟩
        · have h3 : o.wp P a w' (fun a' w'' => H w'' ∧ wpEnv P ops H Q l a' w'') Q := ?h3
          exact .inl (Oper.wp_mono (fun a' w'' (h2 : H w'' ∧ wpEnv P ops H Q l a' w'') => ⟨h2.1, wpAnyE_of_env ks l _ a' w'' (fun k hk => hes k (by simp [hk])) ho.2 hB.2 h2.2⟩) h3)
          unfold Oper.wp at *
          generalize (execOp a.eval o).run P w' = r at *
          cases r with
          | ok n w'' =>
            cases n <;> simp only [Oper.upon] at h1 ⊢ <;> first
              | exact h1
              | exact Calls.mono h1 (fun e w'' he => by cases e <;> exact he)
          | halt x w'' => cases x <;> simp only [Oper.upon] at h1 ⊢ <;> exact h1
        · exact .inr ⟨h1, a2, w2, h2⟩
      · rename_i hw
        rw [if_neg hw]
        exact ⟨h1.1, wpAnyE_of_env ks l _ _ w' (fun k hk => hes k (by simp [hk])) ho.2 hB.2 h1.2⟩

theorem wpAnyE_lex {es : List Nat} {Q : Exit → Act → World → Prop} {A : Act} {ol : List Oper} (hQ : ∀ c a w d v, Q (.panic c) (Act.put a d v) w → Q (.panic c) a w) (hsel : Region.noSelect ops = true)
    (ho : es.map (fun k => ops[k]?) = ol.map some) {w : World} (hE : wpEnv P ops H Q ol A w) :
    ∀ (qs : List Nat) (listed : Array Bool) (a : Act), Region.envLex md ops es qs listed = true → givesAll P ops H A qs a → wpAnyE P md ops H es Q (qs.length + es.length) listed a w
  | [], listed, a, hB, h => by
    simp only [givesAll] at h
    subst h
    rw [List.length_nil, Nat.zero_add]
    exact wpAnyE_of_env es ol listed a w (fun k hk => by simpa using hk) ho (by simpa [Region.envLex] using hB) hE
  | k :: qs, listed, a, hB, h => by
    simp only [Region.envLex, Bool.and_eq_true] at hB
    obtain ⟨⟨⟨hr, hf⟩, hne⟩, hB'⟩ := hB
    obtain ⟨o, d, ho', hd, hy, hk⟩ := h
    have hr' : k ∈ Region.ready md ops listed := by simpa using hr
    rw [List.length_cons, show qs.length + 1 + es.length = qs.length + es.length + 1 by omega]
    refine wpAnyE_first hQ ho' (Region.noSelect_spec hsel) (by simpa using hne) _ listed a w (Region.free_spec ho' hf) hr' hy ?_
    rw [hd]
    exact wpAnyE_lex hQ hsel ho hE qs _ _ hB' hk

/-! ### Steps that make memory in more than one order: the tree of all orders -/
/-- The steps that are left, in whatever order they may come. -/
def wpEnvR (P : Program) (md : Region.Mode) (ops : Array Oper) (H : World → Prop) (Q : Exit → Act → World → Prop) : Nat → Array Bool → Act → World → Prop
  | 0, _, a, w => ∀ w', Grew w w' → H w' → Q .normal a w'
  | f + 1, listed, a, w => ∀ k ∈ Region.ready md ops listed, ∀ w', Grew w w' → H w' → ∃ o, ops[k]? = some o ∧ wpList P ops (Exit.then (fun a' w'' => H w'' ∧ wpEnvR P md ops H Q f (listed.setIfInBounds k true) a' w'') Q) [o] a w'
def Region.envTree (md : Region.Mode) (ops : Array Oper) (es : List Nat) : Nat → Array Bool → Bool
  | 0, listed => (Region.ready md ops listed).isEmpty
  | f + 1, listed => !(Region.ready md ops listed).isEmpty && (Region.ready md ops listed).all fun k => es.contains k && Region.envTree md ops es f (listed.setIfInBounds k true)
def Region.listAll (listed : Array Bool) : List Nat → Array Bool
  | [] => listed
  | k :: ks => Region.listAll (listed.setIfInBounds k true) ks
def Region.envLexR (md : Region.Mode) (ops : Array Oper) (es : List Nat) : List Nat → Array Bool → Bool
  | [], listed => Region.envTree md ops es es.length listed
  | k :: ks, listed => (Region.ready md ops listed).contains k && Region.free md ops listed k && !es.contains k && Region.envLexR md ops es ks (listed.setIfInBounds k true)

theorem wpAnyE_of_envR {es : List Nat} {Q : Exit → Act → World → Prop} : ∀ (f : Nat) (listed : Array Bool) (a : Act) (w : World),
    Region.envTree md ops es f listed = true → wpEnvR P md ops H Q f listed a w → wpAnyE P md ops H es Q f listed a w
  | 0, listed, a, w, hB, h => ⟨by simpa [Region.envTree] using hB, h⟩
  | f + 1, listed, a, w, hB, h => by
    simp only [Region.envTree, Bool.and_eq_true, Bool.not_eq_true', List.isEmpty_eq_false_iff, List.all_eq_true] at hB
    refine ⟨fun h1 => absurd h1 hB.1, fun i hi => ?_⟩
    obtain ⟨hc, hT⟩ := hB.2 i hi
    rw [if_pos hc]
    intro w' hg hw'
    obtain ⟨o, ho, h1⟩ := h i hi w' hg hw'
    unfold wpOp
    simp only [ho]
    unfold wpList at h1
    split at h1
    · rename_i hw
      rw [if_pos hw]
      rcases h1 with h1 | ⟨h1, a2, w2, h2⟩
      · have h3 : o.wp P a w' (fun a' w'' => H w'' ∧ wpEnvR P md ops H Q f (listed.setIfInBounds i true) a' w'') Q := ?h3
        exact .inl (Oper.wp_mono (fun a' w'' (h2 : H w'' ∧ wpEnvR P md ops H Q f (listed.setIfInBounds i true) a' w'') => ⟨h2.1, wpAnyE_of_envR f _ a' w'' hT h2.2⟩) h3)
        unfold Oper.wp at *
        generalize (execOp a.eval o).run P w' = r at *
        cases r with
        | ok n w'' =>
          cases n <;> simp only [Oper.upon] at h1 ⊢ <;> first
            | exact h1
            | exact Calls.mono h1 (fun e w'' he => by cases e <;> exact he)
        | halt x w'' => cases x <;> simp only [Oper.upon] at h1 ⊢ <;> exact h1
      · exact .inr ⟨h1, a2, w2, h2⟩
    · rename_i hw
      rw [if_neg hw]
      exact ⟨h1.1, wpAnyE_of_envR f _ _ w' hT h1.2⟩

theorem wpAnyE_lexR {es : List Nat} {Q : Exit → Act → World → Prop} {A : Act} (hQ : ∀ c a w d v, Q (.panic c) (Act.put a d v) w → Q (.panic c) a w) (hsel : Region.noSelect ops = true) {w : World} :
    ∀ (qs : List Nat) (listed : Array Bool) (a : Act), wpEnvR P md ops H Q es.length (Region.listAll listed qs) A w → Region.envLexR md ops es qs listed = true → givesAll P ops H A qs a → wpAnyE P md ops H es Q (qs.length + es.length) listed a w
  | [], listed, a, hE, hB, h => by
    simp only [givesAll] at h
    subst h
    rw [List.length_nil, Nat.zero_add]
    exact wpAnyE_of_envR es.length listed a w (by simpa [Region.envLexR] using hB) hE
  | k :: qs, listed, a, hE, hB, h => by
    simp only [Region.envLexR, Bool.and_eq_true] at hB
    obtain ⟨⟨⟨hr, hf⟩, hne⟩, hB'⟩ := hB
    obtain ⟨o, d, ho', hd, hy, hk⟩ := h
    have hr' : k ∈ Region.ready md ops listed := by simpa using hr
    rw [List.length_cons, show qs.length + 1 + es.length = qs.length + es.length + 1 by omega]
    refine wpAnyE_first hQ ho' (Region.noSelect_spec hsel) (by simpa using hne) _ listed a w (Region.free_spec ho' hf) hr' hy ?_
    rw [hd]
    exact wpAnyE_lexR hQ hsel qs _ _ hE hB' hk

/-- From the walk in the text's order, at every world 'Y' of the class by itself. -/
theorem wpQuiet_keeps {C : World → Prop} {A : Act} : ∀ (l : List Oper) (a : Act) (d : Nat), (∀ o ∈ l, o.dst ≠ some d) → wpQuiet P ops C (fun a' => a' = A) l a → A.tmps.getD d undef = a.tmps.getD d undef
  | [], a, d, _, h => by simp only [wpQuiet] at h; rw [h]
  | o :: l, a, d, hd, h => by
    have hput : ∀ v, (a.put o.dst v).tmps.getD d undef = a.tmps.getD d undef := fun v => by
      have := hd o (by simp)
      cases hdst : o.dst with
      | none => rfl
      | some e =>
        have hne : e ≠ d := fun h => this (by rw [hdst, h])
        simp [Act.put, Array.getElem?_setIfInBounds_ne hne]
    unfold wpQuiet at h
    split at h
    · obtain ⟨v, _, h⟩ := h
      rw [wpQuiet_keeps l _ d (fun o' ho' => hd o' (by simp [ho'])) h, hput]
    · rw [wpQuiet_keeps l _ d (fun o' ho' => hd o' (by simp [ho'])) h, hput]

def envDsts (qs : List Nat) (ops : Array Oper) (n : Nat) : Bool :=
  match qs with
  | [] => true
  | i :: rest => (match ops[i]? with
    | some o => (match o.dst with
      | some d => decide (d < n) && rest.all fun j => (match ops[j]? with | some o' => o'.dst != some d | none => true)
      | none => false)
    | none => false) && envDsts rest ops n

theorem givesAll_of_quiet {A : Act} (hH : ∃ Y, H Y) : ∀ (qs : List Nat) (l : List Oper) (a : Act), qs.map (fun k => ops[k]?) = l.map some → envDsts qs ops a.tmps.size = true →
    (∀ Y, H Y → wpQuiet P ops (fun w' => Grew Y w') (fun a' => a' = A) l a) → givesAll P ops H A qs a
  | [], l, a, hl, _, h => by
    cases l with
    | nil => obtain ⟨Y, hY⟩ := hH; exact h Y hY
    | cons o l => simp at hl
  | i :: qs, l, a, hl, hd, h => by
    cases l with
    | nil => simp at hl
    | cons o l =>
      simp only [List.map_cons, List.cons.injEq] at hl
      unfold envDsts at hd
      simp only [hl.1] at hd
      cases hdst : o.dst with
      | none => simp [hdst] at hd
      | some d =>
        simp only [hdst, Bool.and_eq_true, decide_eq_true_eq] at hd
        have hno : ∀ o' ∈ l, o'.dst ≠ some d := fun o' ho' => by
          have h1 := List.all_eq_true.1 hd.1.2
          have h2 : some o' ∈ l.map some := List.mem_map.2 ⟨o', ho', rfl⟩
          rw [← hl.2] at h2
          obtain ⟨j, hj, hj2⟩ := List.mem_map.1 h2
          have h3 := h1 j hj
          simp only [hj2] at h3
          simpa using h3
        have hval : ∀ v, (a.put (some d) v).tmps.getD d undef = v := fun v => by simp [Act.put, hd.1.1]
        have key : ∀ Y, H Y → (Region.wanted o (yielded ops a.tmps) = true → (∀ w, Grew Y w → o.quietAt P a (fun w' => Grew Y w') w (A.tmps.getD d undef))) ∧
            (Region.wanted o (yielded ops a.tmps) = false → A.tmps.getD d undef = undef) ∧ wpQuiet P ops (fun w' => Grew Y w') (fun a' => a' = A) l (a.put (some d) (A.tmps.getD d undef)) := by
          intro Y hY
          have h0 := h Y hY
          unfold wpQuiet at h0
          rw [hdst] at h0
          split at h0
          · rename_i hw
            obtain ⟨v, h1, h2⟩ := h0
            rw [hdst] at h2
            have e := wpQuiet_keeps l _ d hno h2
            rw [hval] at e
            rw [e]
            exact ⟨fun _ => h1, fun h => (by rw [hw] at h; cases h), h2⟩
          · rename_i hw
            have e := wpQuiet_keeps l _ d hno h0
            rw [hval] at e
            rw [e]
            exact ⟨fun h => absurd h hw, fun _ => rfl, h0⟩
        refine ⟨o, d, hl.1, hdst, ?_, givesAll_of_quiet hH qs l _ hl.2 (by simpa [Act.put] using hd.2) fun Y hY => (key Y hY).2.2⟩
        by_cases hw : Region.wanted o (yielded ops a.tmps) = true
        · exact .inl ⟨hw, fun w hw' => (key w hw').1 hw w (Grew.refl _)⟩
        · obtain ⟨Y, hY⟩ := hH
          exact .inr ⟨by simpa using hw, (key Y hY).2.1 (by simpa using hw)⟩

def pick1 : List Oper → Nat → List Oper → List Oper
  | [], _, r => r
  | o :: _, 0, r => o :: r
  | _ :: l, k + 1, r => pick1 l k r
theorem pick1_nil (k : Nat) (r : List Oper) : pick1 [] k r = r := by cases k <;> rfl
theorem pick1_zero (o : Oper) (l r : List Oper) : pick1 (o :: l) 0 r = o :: r := rfl
theorem pick1_succ (o : Oper) (l r : List Oper) (k : Nat) : pick1 (o :: l) (k + 1) r = pick1 l k r := rfl
theorem pick1_eq : ∀ (l : List Oper) (k : Nat) (r : List Oper) (h : k < l.length), pick1 l k r = l[k] :: r
  | o :: l, 0, r, _ => rfl
  | o :: l, k + 1, r, h => by rw [pick1_succ, pick1_eq l k r (by simpa using h)]; simp
def pickOps (l : List Oper) : List Nat → List Oper
  | [] => []
  | k :: ks => pick1 l k (pickOps l ks)
theorem pickOps_nil (l : List Oper) : pickOps l [] = [] := rfl
theorem pickOps_cons (l : List Oper) (k : Nat) (ks : List Nat) : pickOps l (k :: ks) = pick1 l k (pickOps l ks) := rfl
def envOk (ks : List Nat) (n : Nat) : Bool := ks.all fun k => decide (k < n)
theorem map_pick (l : List Oper) (ks : List Nat) (h : envOk ks l.length = true) : ks.map (fun k => l.toArray[k]?) = (pickOps l ks).map some := by
  induction ks with
  | nil => rfl
  | cons k ks ih =>
    unfold envOk at h
    simp only [List.all_cons, Bool.and_eq_true, decide_eq_true_eq] at h
    have hk : l[k]? = some l[k] := List.getElem?_eq_getElem h.1
    rw [pickOps_cons, pick1_eq l k _ h.1, List.map_cons, List.map_cons, ← ih h.2, List.getElem?_toArray, hk]

/-- A region that draws its order: the steps 'qs' leave what was as it was and give one value in every world of the class 'H'; the steps 'es' go in one order among themselves, each in whatever world of the class the others have left. -/
theorem wp_region_env {id : Nat} {Q : Exit → Act → World → Prop} {a : Act} {w : World} {l : List Oper} (qs es : List Nat) (H : World → Prop) (hm : P.follows .mixedOrders = true)
    (hB : (Region.noSelect l.toArray && Region.envLex .any l.toArray es qs (Array.replicate l.length false) && envOk qs l.length && envOk es l.length && decide (qs.length + es.length = l.length)) = true)
    (hD : envDsts qs l.toArray a.tmps.size = true)
    (hQ : ∀ c a w d v, Q (.panic c) (Act.put a d v) w → Q (.panic c) a w) (hH : ∀ w w', H w → Grew w w' → H w') (hw : H w) (A : Act)
    (hq : ∀ Y, H Y → wpQuiet P l.toArray (fun w' => Grew Y w') (fun a' => a' = A) (pickOps l qs) a)
    (he : wpEnv P l.toArray H Q (pickOps l es) A w) : (Code.region id l.toArray true).wp P Q a w := by
  simp only [Bool.and_eq_true, decide_eq_true_eq] at hB
  obtain ⟨⟨⟨⟨hsel, hlex⟩, hok1⟩, hok2⟩, hlen⟩ := hB
  refine wp_region_any hm (wpAny_of_E (H := H) hH (es := es) _ _ _ _ (hH _ _ hw ⟨_, drew_is_grow w⟩) ?_)
  have hd : Grew w { w with drawn := w.drawn + 1 } := ⟨_, drew_is_grow w⟩
  have h1 := wpAnyE_lex (md := .any) (ops := l.toArray) hQ hsel (map_pick l es hok2) he qs (Array.replicate l.length false) a hlex
    (givesAll_of_quiet ⟨w, hw⟩ qs (pickOps l qs) a (map_pick l qs hok1) hD hq)
  rw [hlen] at h1
  have h2 := wpAnyE_mono _ _ _ _ _ hd h1
  simpa using h2

theorem wp_region_env_g {id : Nat} {Q : Exit → Act → World → Prop} {a : Act} {X : World} {δ : Junk} {l : List Oper} (qs es : List Nat) (hm : P.follows .mixedOrders = true)
    (hB : (Region.noSelect l.toArray && Region.envLex .any l.toArray es qs (Array.replicate l.length false) && envOk qs l.length && envOk es l.length && decide (qs.length + es.length = l.length)) = true)
    (hD : envDsts qs l.toArray a.tmps.size = true)
    (hQ : ∀ c a w d v, Q (.panic c) (Act.put a d v) w → Q (.panic c) a w) (V : Act)
    (hq : ∀ A, Hid (A = V) → ∀ δ', wpQuiet P l.toArray (fun w' => ∃ n, w' = (X.grow δ').grow n) (fun a' => a' = A) (pickOps l qs) a)
    (he : wpEnv P l.toArray (fun w' => ∃ n, w' = X.grow n) Q (pickOps l es) V (X.grow δ)) : (Code.region id l.toArray true).wp P Q a (X.grow δ) :=
  wp_region_env qs es (fun w' => ∃ n, w' = X.grow n) hm hB hD hQ (fun w w' ⟨n, h⟩ ⟨m, h'⟩ => ⟨⟨n.objs ++ m.objs, m.drawn⟩, by rw [h', h, grow_grow]⟩) ⟨_, rfl⟩ V (fun Y ⟨n, h⟩ => h ▸ hq V (rfl : V = V) n) he

theorem wp_region_env_p {id : Nat} {Q : Exit → Act → World → Prop} {a : Act} {X : World} {l : List Oper} (qs es : List Nat) (hm : P.follows .mixedOrders = true)
    (hB : (Region.noSelect l.toArray && Region.envLex .any l.toArray es qs (Array.replicate l.length false) && envOk qs l.length && envOk es l.length && decide (qs.length + es.length = l.length)) = true)
    (hD : envDsts qs l.toArray a.tmps.size = true)
    (hQ : ∀ c a w d v, Q (.panic c) (Act.put a d v) w → Q (.panic c) a w) (V : Act)
    (hq : ∀ A, Hid (A = V) → ∀ δ', wpQuiet P l.toArray (fun w' => ∃ n, w' = (X.grow δ').grow n) (fun a' => a' = A) (pickOps l qs) a)
    (he : wpEnv P l.toArray (fun w' => ∃ n, w' = X.grow n) Q (pickOps l es) V X) : (Code.region id l.toArray true).wp P Q a X := by
  have h := wp_region_env_g (id := id) (X := X) (δ := ⟨#[], X.drawn⟩) qs es hm hB hD hQ V hq (by rw [grow_self]; exact he)
  rwa [grow_self] at h

/-! ### A step that writes into a block of the call's own, beside calls: the world is of one of two classes -/
def TwoW (X Z : World) (w' : World) : Prop := ∃ n : Junk, w' = X.grow n ∨ w' = Z.grow n
theorem TwoW.grow' {X Z w w' : World} (h : TwoW X Z w) (hg : Grew w w') : TwoW X Z w' := by
  obtain ⟨m, rfl⟩ := hg
  obtain ⟨n, h | h⟩ := h <;> subst h
  · exact ⟨⟨n.objs ++ m.objs, m.drawn⟩, .inl (grow_grow _ _ _)⟩
  · exact ⟨⟨n.objs ++ m.objs, m.drawn⟩, .inr (grow_grow _ _ _)⟩
theorem twoW_left (X Z : World) (n : Junk) : TwoW X Z (X.grow n) := ⟨n, .inl rfl⟩
theorem twoW_right (X Z : World) (n : Junk) : TwoW X Z (Z.grow n) := ⟨n, .inr rfl⟩
theorem twoW_self (X Z : World) : TwoW X Z Z := ⟨_, .inr (grow_self Z).symm⟩
theorem wp_region_store_g {id : Nat} {Q : Exit → Act → World → Prop} {a : Act} {X Z : World} {δ : Junk} {l : List Oper} (qs es : List Nat) (hm : P.follows .mixedOrders = true)
    (hB : (Region.noSelect l.toArray && Region.envLex .any l.toArray es qs (Array.replicate l.length false) && envOk qs l.length && envOk es l.length && decide (qs.length + es.length = l.length)) = true)
    (hD : envDsts qs l.toArray a.tmps.size = true)
    (hQ : ∀ c a w d v, Q (.panic c) (Act.put a d v) w → Q (.panic c) a w) (V : Act)
    (hq : ∀ A, Hid (A = V) → ∀ δ', wpQuiet P l.toArray (fun w' => ∃ n, w' = (X.grow δ').grow n) (fun a' => a' = A) (pickOps l qs) a)
    (he : wpEnv P l.toArray (TwoW X Z) Q (pickOps l es) V (X.grow δ))
    (hq2 : ∀ A, Hid (A = V) → ∀ δ', wpQuiet P l.toArray (fun w' => ∃ n, w' = (Z.grow δ').grow n) (fun a' => a' = A) (pickOps l qs) a) : (Code.region id l.toArray true).wp P Q a (X.grow δ) :=
  wp_region_env qs es (TwoW X Z) hm hB hD hQ (fun w w' h hg => h.grow' hg) ⟨_, .inl rfl⟩ V (fun Y ⟨n, h⟩ => by
    rcases h with rfl | rfl
    · exact hq V (rfl : V = V) n
    · exact hq2 V (rfl : V = V) n) he
theorem wp_region_store_p {id : Nat} {Q : Exit → Act → World → Prop} {a : Act} {X Z : World} {l : List Oper} (qs es : List Nat) (hm : P.follows .mixedOrders = true)
    (hB : (Region.noSelect l.toArray && Region.envLex .any l.toArray es qs (Array.replicate l.length false) && envOk qs l.length && envOk es l.length && decide (qs.length + es.length = l.length)) = true)
    (hD : envDsts qs l.toArray a.tmps.size = true)
    (hQ : ∀ c a w d v, Q (.panic c) (Act.put a d v) w → Q (.panic c) a w) (V : Act)
    (hq : ∀ A, Hid (A = V) → ∀ δ', wpQuiet P l.toArray (fun w' => ∃ n, w' = (X.grow δ').grow n) (fun a' => a' = A) (pickOps l qs) a)
    (he : wpEnv P l.toArray (TwoW X Z) Q (pickOps l es) V X)
    (hq2 : ∀ A, Hid (A = V) → ∀ δ', wpQuiet P l.toArray (fun w' => ∃ n, w' = (Z.grow δ').grow n) (fun a' => a' = A) (pickOps l qs) a) : (Code.region id l.toArray true).wp P Q a X := by
  have h := wp_region_store_g (id := id) (X := X) (Z := Z) (δ := ⟨#[], X.drawn⟩) qs es hm hB hD hQ V hq (by rw [grow_self]; exact he) hq2
  rwa [grow_self] at h

/-- As 'wp_region_env', where the steps 'es' may go in more than one order. -/
theorem wp_region_tree {id : Nat} {Q : Exit → Act → World → Prop} {a : Act} {w : World} {l : List Oper} (qs es : List Nat) (H : World → Prop) (hm : P.follows .mixedOrders = true)
    (hB : (Region.noSelect l.toArray && Region.envLexR .any l.toArray es qs (Array.replicate l.length false) && envOk qs l.length && envOk es l.length && decide (qs.length + es.length = l.length)) = true)
    (hD : envDsts qs l.toArray a.tmps.size = true)
    (hQ : ∀ c a w d v, Q (.panic c) (Act.put a d v) w → Q (.panic c) a w) (hH : ∀ w w', H w → Grew w w' → H w') (hw : H w) (A : Act)
    (hq : ∀ Y, H Y → wpQuiet P l.toArray (fun w' => Grew Y w') (fun a' => a' = A) (pickOps l qs) a)
    (he : wpEnvR P .any l.toArray H Q es.length (Region.listAll (Array.replicate l.length false) qs) A w) : (Code.region id l.toArray true).wp P Q a w := by
  simp only [Bool.and_eq_true, decide_eq_true_eq] at hB
  obtain ⟨⟨⟨⟨hsel, hlex⟩, hok1⟩, hok2⟩, hlen⟩ := hB
  refine wp_region_any hm (wpAny_of_E (H := H) hH (es := es) _ _ _ _ (hH _ _ hw ⟨_, drew_is_grow w⟩) ?_)
  have hd : Grew w { w with drawn := w.drawn + 1 } := ⟨_, drew_is_grow w⟩
  have h1 := wpAnyE_lexR (md := .any) (ops := l.toArray) (es := es) hQ hsel (w := w) qs (Array.replicate l.length false) a he hlex
    (givesAll_of_quiet ⟨w, hw⟩ qs (pickOps l qs) a (map_pick l qs hok1) hD hq)
  rw [hlen] at h1
  have h2 := wpAnyE_mono _ _ _ _ _ hd h1
  simpa using h2
theorem wp_region_tree_g {id : Nat} {Q : Exit → Act → World → Prop} {a : Act} {X : World} {δ : Junk} {l : List Oper} (qs es : List Nat) (hm : P.follows .mixedOrders = true)
    (hB : (Region.noSelect l.toArray && Region.envLexR .any l.toArray es qs (Array.replicate l.length false) && envOk qs l.length && envOk es l.length && decide (qs.length + es.length = l.length)) = true)
    (hD : envDsts qs l.toArray a.tmps.size = true)
    (hQ : ∀ c a w d v, Q (.panic c) (Act.put a d v) w → Q (.panic c) a w) (V : Act)
    (hq : ∀ A, Hid (A = V) → ∀ δ', wpQuiet P l.toArray (fun w' => ∃ n, w' = (X.grow δ').grow n) (fun a' => a' = A) (pickOps l qs) a)
    (he : wpEnvR P .any l.toArray (fun w' => ∃ n, w' = X.grow n) Q es.length (Region.listAll (Array.replicate l.length false) qs) V (X.grow δ)) : (Code.region id l.toArray true).wp P Q a (X.grow δ) :=
  wp_region_tree qs es (fun w' => ∃ n, w' = X.grow n) hm hB hD hQ (fun w w' ⟨n, h⟩ ⟨m, h'⟩ => ⟨⟨n.objs ++ m.objs, m.drawn⟩, by rw [h', h, grow_grow]⟩) ⟨_, rfl⟩ V (fun Y ⟨n, h⟩ => h ▸ hq V (rfl : V = V) n) he
theorem wp_region_tree_p {id : Nat} {Q : Exit → Act → World → Prop} {a : Act} {X : World} {l : List Oper} (qs es : List Nat) (hm : P.follows .mixedOrders = true)
    (hB : (Region.noSelect l.toArray && Region.envLexR .any l.toArray es qs (Array.replicate l.length false) && envOk qs l.length && envOk es l.length && decide (qs.length + es.length = l.length)) = true)
    (hD : envDsts qs l.toArray a.tmps.size = true)
    (hQ : ∀ c a w d v, Q (.panic c) (Act.put a d v) w → Q (.panic c) a w) (V : Act)
    (hq : ∀ A, Hid (A = V) → ∀ δ', wpQuiet P l.toArray (fun w' => ∃ n, w' = (X.grow δ').grow n) (fun a' => a' = A) (pickOps l qs) a)
    (he : wpEnvR P .any l.toArray (fun w' => ∃ n, w' = X.grow n) Q es.length (Region.listAll (Array.replicate l.length false) qs) V X) : (Code.region id l.toArray true).wp P Q a X := by
  have h := wp_region_tree_g (id := id) (X := X) (δ := ⟨#[], X.drawn⟩) qs es hm hB hD hQ V hq (by rw [grow_self]; exact he)
  rwa [grow_self] at h
section
variable {md : Region.Mode} {X : World} {Q : Exit → Act → World → Prop} {a : Act} {w : World} {l : List Oper} {f : Nat} {listed : Array Bool}
def wpEnvS (P : Program) (md : Region.Mode) (l : List Oper) (X : World) (Q : Exit → Act → World → Prop) (f : Nat) (listed : Array Bool) (k : Nat) (a : Act) (w : World) : Prop :=
  ∀ δ, wpList P l.toArray (Exit.then (fun a' w'' => (∃ n, w'' = X.grow n) ∧ wpEnvR P md l.toArray (fun w' => ∃ n, w' = X.grow n) Q f (listed.setIfInBounds k true) a' w'') Q) (pickOps l [k]) a (w.grow δ)
theorem wpEnvS_intro {k : Nat} (h : ∀ δ, wpList P l.toArray (Exit.then (fun a' w'' => (∃ n, w'' = X.grow n) ∧ wpEnvR P md l.toArray (fun w' => ∃ n, w' = X.grow n) Q f (listed.setIfInBounds k true) a' w'') Q) (pickOps l [k]) a (w.grow δ)) : wpEnvS P md l X Q f listed k a w := h
theorem wpEnvR_of_S (rs : List Nat) (hr : Region.ready md l.toArray listed = rs) (hk : envOk rs l.length = true) (h : ∀ k ∈ rs, wpEnvS P md l X Q f listed k a w) :
    wpEnvR P md l.toArray (fun w' => ∃ n, w' = X.grow n) Q (f + 1) listed a w := by
  intro k hkr w' hg _
  rw [hr] at hkr
  have hlt : k < l.length := by
    unfold envOk at hk
    simpa using List.all_eq_true.1 hk k hkr
  obtain ⟨δ, rfl⟩ := hg
  refine ⟨l[k], by simp [hlt], ?_⟩
  have := h k hkr δ
  rwa [pickOps_cons, pick1_eq l k _ hlt, pickOps_nil] at this
theorem wpEnvR_one (k : Nat) (hr : Region.ready md l.toArray listed = [k]) (hk : envOk [k] l.length = true) (h : wpEnvS P md l X Q f listed k a w) :
    wpEnvR P md l.toArray (fun w' => ∃ n, w' = X.grow n) Q (f + 1) listed a w := wpEnvR_of_S [k] hr hk (by intro i hi; simp only [List.mem_singleton] at hi; subst hi; exact h)
theorem wpEnvR_two (k m : Nat) (hr : Region.ready md l.toArray listed = [k, m]) (hk : envOk [k, m] l.length = true) (h : wpEnvS P md l X Q f listed k a w) (h2 : wpEnvS P md l X Q f listed m a w) :
    wpEnvR P md l.toArray (fun w' => ∃ n, w' = X.grow n) Q (f + 1) listed a w := wpEnvR_of_S [k, m] hr hk (by
  intro i hi; simp only [List.mem_cons, List.not_mem_nil, or_false] at hi
  rcases hi with rfl | rfl
  · exact h
  · exact h2)
theorem wpEnvR_three (k m n : Nat) (hr : Region.ready md l.toArray listed = [k, m, n]) (hk : envOk [k, m, n] l.length = true) (h : wpEnvS P md l X Q f listed k a w) (h2 : wpEnvS P md l X Q f listed m a w) (h3 : wpEnvS P md l X Q f listed n a w) :
    wpEnvR P md l.toArray (fun w' => ∃ n, w' = X.grow n) Q (f + 1) listed a w := wpEnvR_of_S [k, m, n] hr hk (by
  intro i hi; simp only [List.mem_cons, List.not_mem_nil, or_false] at hi
  rcases hi with rfl | rfl | rfl
  · exact h
  · exact h2
  · exact h3)
theorem wpEnvR_end (h : ∀ δ, Q .normal a (w.grow δ)) : wpEnvR P md l.toArray (fun w' => ∃ n, w' = X.grow n) Q 0 listed a w := fun w' ⟨δ, h'⟩ _ => h' ▸ h δ
end

theorem wpEnv_step {o : Oper} {rest : List Oper} {Q : Exit → Act → World → Prop} {a : Act} {w : World} (h : ∀ δ, wpList P ops (Exit.then (fun a' w'' => H w'' ∧ wpEnv P ops H Q rest a' w'') Q) [o] a (w.grow δ)) : wpEnv P ops H Q (o :: rest) a w :=
  fun w' ⟨δ, h'⟩ _ => h' ▸ h δ
theorem wpEnv_end {Q : Exit → Act → World → Prop} {a : Act} {w : World} (h : ∀ δ, Q .normal a (w.grow δ)) : wpEnv P ops H Q [] a w := fun w' ⟨δ, h'⟩ _ => h' ▸ h δ

/-- The call in such a region's quiet part. -/
theorem Calls.pure_of_g {f : FuncId} {args : Array Value} {X : World} {δ n : Junk} {v : Value}
    (h : Calls P f args (X.grow ⟨δ.objs ++ n.objs, n.drawn⟩) fun e w' => e = .returned v ∧ Grew (X.grow ⟨δ.objs ++ n.objs, n.drawn⟩) w') :
    Calls P f args (X.grow ⟨δ.objs ++ n.objs, n.drawn⟩) fun e w'' => e = .returned v ∧ ∃ m : Junk, w'' = X.grow ⟨δ.objs ++ m.objs, m.drawn⟩ :=
  h.mono fun _ _ ⟨he, hm⟩ => ⟨he, by obtain ⟨m, rfl⟩ := hm; exact ⟨⟨n.objs ++ m.objs, m.drawn⟩, by simp [grow_grow, Array.append_assoc]⟩⟩
end
section
variable {P : Program} {ops : Array Oper} {C : World → Prop}
/-- A list of steps that all leave what was as it was. -/
theorem wpList_of_quiet {Q : Exit → Act → World → Prop} : ∀ (l : List Oper) (a : Act) (w : World), C w → wpQuiet P ops C (fun a' => ∀ w', C w' → Q .normal a' w') l a → wpList P ops Q l a w
  | [], a, w, hw, h => h w hw
  | o :: l, a, w, hw, h => by
    unfold wpQuiet at h
    unfold wpList
    split at h
    · rename_i hwant
      rw [if_pos hwant]
      obtain ⟨v, h1, h2⟩ := h
      refine .inl ?_
      have h3 := h1 w hw
      unfold Oper.quietAt at h3
      unfold Oper.wp
      generalize (execOp a.eval o).run P w = r at *
      cases r with
      | ok n w' =>
        cases n <;> simp only [Oper.quietUpon] at h3 <;> simp only [Oper.upon]
        case value u => obtain ⟨e1, e2⟩ := h3; rw [e1, e2]; exact wpList_of_quiet l _ _ hw h2
        case skip => obtain ⟨e1, e2⟩ := h3; rw [e1, ← e2]; exact wpList_of_quiet l _ _ hw h2
        case enter f args =>
          obtain ⟨e1, hc⟩ := h3
          rw [e1]
          exact hc.mono fun e w'' ⟨he, hw''⟩ => by subst he; exact wpList_of_quiet l _ _ hw'' h2
      | halt x w' => simp only [Oper.quietUpon] at h3
    · rename_i hwant
      rw [if_neg hwant]
      exact wpList_of_quiet l _ _ hw h
theorem wpList_quiet_g {Q : Exit → Act → World → Prop} {a : Act} {X : World} {δ : Junk} {l : List Oper} (k : Nat) (hk : l.length = k)
    (h : wpQuiet P ops (fun w' => ∃ n, w' = X.grow n) (fun a' => ∀ w', (∃ n, w' = X.grow n) → Q .normal a' w') l a) : wpList P ops Q l a (X.grow δ) := wpList_of_quiet l a _ ⟨_, rfl⟩ h
theorem wpList_quiet_p {Q : Exit → Act → World → Prop} {a : Act} {X : World} {l : List Oper} (k : Nat) (hk : l.length = k)
    (h : wpQuiet P ops (fun w' => ∃ n, w' = X.grow n) (fun a' => ∀ w', (∃ n, w' = X.grow n) → Q .normal a' w') l a) : wpList P ops Q l a X := wpList_of_quiet l a _ ⟨_, (grow_self X).symm⟩ h
end
theorem grows_self (X : World) (δ : Junk) : ∃ n, X.grow δ = X.grow n := ⟨_, rfl⟩
theorem grows_none (X : World) : ∃ n, X = X.grow n := ⟨_, (grow_self X).symm⟩
theorem grows_grow {X Y : World} (h : ∃ n, Y = X.grow n) (δ : Junk) : ∃ n, Y.grow δ = X.grow n := by obtain ⟨n, rfl⟩ := h; exact ⟨_, grow_grow _ _ _⟩
theorem grows_alloc {X Y : World} (h : ∃ n, Y = X.grow n) (o : Obj) : ∃ n, Y.alloc o = X.grow n := by rw [alloc_is_grow]; exact grows_grow h _
theorem grow_alloc_grow (X : World) (a b : Junk) (o : Obj) : ((X.grow a).alloc o).grow b = X.grow ⟨a.objs ++ (#[o] ++ b.objs), b.drawn⟩ := by
  rw [alloc_is_grow, grow_grow, grow_grow]
theorem grows_drew {X Y : World} (h : ∃ n, Y = X.grow n) : ∃ n, Y.drew = X.grow n := by rw [drew_is_grow]; exact grows_grow h _
/-! ### Places: what lies ahead of new memory -/
@[go_sem] theorem lt_places_1_0 (x : Nat) : x < x + 1 := by omega
@[go_sem] theorem lt_places_2_0 (x a1 : Nat) : x < x + 1 + a1 := by omega
@[go_sem] theorem lt_places_2_1 (x a0 : Nat) : x < x + a0 + 1 := by omega
@[go_sem] theorem lt_places_3_0 (x a1 a2 : Nat) : x < x + 1 + a1 + a2 := by omega
@[go_sem] theorem lt_places_3_1 (x a0 a2 : Nat) : x < x + a0 + 1 + a2 := by omega
@[go_sem] theorem lt_places_3_2 (x a0 a1 : Nat) : x < x + a0 + a1 + 1 := by omega
@[go_sem] theorem lt_places_4_0 (x a1 a2 a3 : Nat) : x < x + 1 + a1 + a2 + a3 := by omega
@[go_sem] theorem lt_places_4_1 (x a0 a2 a3 : Nat) : x < x + a0 + 1 + a2 + a3 := by omega
@[go_sem] theorem lt_places_4_2 (x a0 a1 a3 : Nat) : x < x + a0 + a1 + 1 + a3 := by omega
@[go_sem] theorem lt_places_5_0 (x a1 a2 a3 a4 : Nat) : x < x + 1 + a1 + a2 + a3 + a4 := by omega
@[go_sem] theorem lt_places_5_1 (x a0 a2 a3 a4 : Nat) : x < x + a0 + 1 + a2 + a3 + a4 := by omega
@[go_sem] theorem lt_places_5_2 (x a0 a1 a3 a4 : Nat) : x < x + a0 + a1 + 1 + a3 + a4 := by omega
@[go_sem] theorem lt_places_6_0 (x a1 a2 a3 a4 a5 : Nat) : x < x + 1 + a1 + a2 + a3 + a4 + a5 := by omega
@[go_sem] theorem lt_places_6_1 (x a0 a2 a3 a4 a5 : Nat) : x < x + a0 + 1 + a2 + a3 + a4 + a5 := by omega
@[go_sem] theorem lt_places_6_2 (x a0 a1 a3 a4 a5 : Nat) : x < x + a0 + a1 + 1 + a3 + a4 + a5 := by omega
@[go_sem] theorem lt_places_7_0 (x a1 a2 a3 a4 a5 a6 : Nat) : x < x + 1 + a1 + a2 + a3 + a4 + a5 + a6 := by omega
@[go_sem] theorem lt_places_7_1 (x a0 a2 a3 a4 a5 a6 : Nat) : x < x + a0 + 1 + a2 + a3 + a4 + a5 + a6 := by omega
@[go_sem] theorem lt_places_7_2 (x a0 a1 a3 a4 a5 a6 : Nat) : x < x + a0 + a1 + 1 + a3 + a4 + a5 + a6 := by omega
@[go_sem] theorem lt_places_8_0 (x a1 a2 a3 a4 a5 a6 a7 : Nat) : x < x + 1 + a1 + a2 + a3 + a4 + a5 + a6 + a7 := by omega
@[go_sem] theorem lt_places_8_1 (x a0 a2 a3 a4 a5 a6 a7 : Nat) : x < x + a0 + 1 + a2 + a3 + a4 + a5 + a6 + a7 := by omega
@[go_sem] theorem lt_places_8_2 (x a0 a1 a3 a4 a5 a6 a7 : Nat) : x < x + a0 + a1 + 1 + a3 + a4 + a5 + a6 + a7 := by omega
@[go_sem] theorem lt_places_9_0 (x a1 a2 a3 a4 a5 a6 a7 a8 : Nat) : x < x + 1 + a1 + a2 + a3 + a4 + a5 + a6 + a7 + a8 := by omega
@[go_sem] theorem lt_places_9_1 (x a0 a2 a3 a4 a5 a6 a7 a8 : Nat) : x < x + a0 + 1 + a2 + a3 + a4 + a5 + a6 + a7 + a8 := by omega
@[go_sem] theorem lt_places_9_2 (x a0 a1 a3 a4 a5 a6 a7 a8 : Nat) : x < x + a0 + a1 + 1 + a3 + a4 + a5 + a6 + a7 + a8 := by omega
@[go_sem] theorem lt_places_10_0 (x a1 a2 a3 a4 a5 a6 a7 a8 a9 : Nat) : x < x + 1 + a1 + a2 + a3 + a4 + a5 + a6 + a7 + a8 + a9 := by omega
@[go_sem] theorem lt_places_10_1 (x a0 a2 a3 a4 a5 a6 a7 a8 a9 : Nat) : x < x + a0 + 1 + a2 + a3 + a4 + a5 + a6 + a7 + a8 + a9 := by omega
@[go_sem] theorem lt_places_10_2 (x a0 a1 a3 a4 a5 a6 a7 a8 a9 : Nat) : x < x + a0 + a1 + 1 + a3 + a4 + a5 + a6 + a7 + a8 + a9 := by omega
@[go_sem] theorem lt_places_11_0 (x a1 a2 a3 a4 a5 a6 a7 a8 a9 a10 : Nat) : x < x + 1 + a1 + a2 + a3 + a4 + a5 + a6 + a7 + a8 + a9 + a10 := by omega
@[go_sem] theorem lt_places_11_1 (x a0 a2 a3 a4 a5 a6 a7 a8 a9 a10 : Nat) : x < x + a0 + 1 + a2 + a3 + a4 + a5 + a6 + a7 + a8 + a9 + a10 := by omega
@[go_sem] theorem lt_places_11_2 (x a0 a1 a3 a4 a5 a6 a7 a8 a9 a10 : Nat) : x < x + a0 + a1 + 1 + a3 + a4 + a5 + a6 + a7 + a8 + a9 + a10 := by omega
@[go_sem] theorem lt_places_12_0 (x a1 a2 a3 a4 a5 a6 a7 a8 a9 a10 a11 : Nat) : x < x + 1 + a1 + a2 + a3 + a4 + a5 + a6 + a7 + a8 + a9 + a10 + a11 := by omega
@[go_sem] theorem lt_places_12_1 (x a0 a2 a3 a4 a5 a6 a7 a8 a9 a10 a11 : Nat) : x < x + a0 + 1 + a2 + a3 + a4 + a5 + a6 + a7 + a8 + a9 + a10 + a11 := by omega
@[go_sem] theorem lt_places_12_2 (x a0 a1 a3 a4 a5 a6 a7 a8 a9 a10 a11 : Nat) : x < x + a0 + a1 + 1 + a3 + a4 + a5 + a6 + a7 + a8 + a9 + a10 + a11 := by omega
@[go_sem] theorem lt_places_13_0 (x a1 a2 a3 a4 a5 a6 a7 a8 a9 a10 a11 a12 : Nat) : x < x + 1 + a1 + a2 + a3 + a4 + a5 + a6 + a7 + a8 + a9 + a10 + a11 + a12 := by omega
@[go_sem] theorem lt_places_13_1 (x a0 a2 a3 a4 a5 a6 a7 a8 a9 a10 a11 a12 : Nat) : x < x + a0 + 1 + a2 + a3 + a4 + a5 + a6 + a7 + a8 + a9 + a10 + a11 + a12 := by omega
@[go_sem] theorem lt_places_13_2 (x a0 a1 a3 a4 a5 a6 a7 a8 a9 a10 a11 a12 : Nat) : x < x + a0 + a1 + 1 + a3 + a4 + a5 + a6 + a7 + a8 + a9 + a10 + a11 + a12 := by omega
@[go_sem] theorem lt_places_14_0 (x a1 a2 a3 a4 a5 a6 a7 a8 a9 a10 a11 a12 a13 : Nat) : x < x + 1 + a1 + a2 + a3 + a4 + a5 + a6 + a7 + a8 + a9 + a10 + a11 + a12 + a13 := by omega
@[go_sem] theorem lt_places_14_1 (x a0 a2 a3 a4 a5 a6 a7 a8 a9 a10 a11 a12 a13 : Nat) : x < x + a0 + 1 + a2 + a3 + a4 + a5 + a6 + a7 + a8 + a9 + a10 + a11 + a12 + a13 := by omega
@[go_sem] theorem lt_places_14_2 (x a0 a1 a3 a4 a5 a6 a7 a8 a9 a10 a11 a12 a13 : Nat) : x < x + a0 + a1 + 1 + a3 + a4 + a5 + a6 + a7 + a8 + a9 + a10 + a11 + a12 + a13 := by omega
@[go_sem] theorem lt_places_15_0 (x a1 a2 a3 a4 a5 a6 a7 a8 a9 a10 a11 a12 a13 a14 : Nat) : x < x + 1 + a1 + a2 + a3 + a4 + a5 + a6 + a7 + a8 + a9 + a10 + a11 + a12 + a13 + a14 := by omega
@[go_sem] theorem lt_places_15_1 (x a0 a2 a3 a4 a5 a6 a7 a8 a9 a10 a11 a12 a13 a14 : Nat) : x < x + a0 + 1 + a2 + a3 + a4 + a5 + a6 + a7 + a8 + a9 + a10 + a11 + a12 + a13 + a14 := by omega
@[go_sem] theorem lt_places_15_2 (x a0 a1 a3 a4 a5 a6 a7 a8 a9 a10 a11 a12 a13 a14 : Nat) : x < x + a0 + a1 + 1 + a3 + a4 + a5 + a6 + a7 + a8 + a9 + a10 + a11 + a12 + a13 + a14 := by omega
@[go_sem] theorem lt_places_16_0 (x a1 a2 a3 a4 a5 a6 a7 a8 a9 a10 a11 a12 a13 a14 a15 : Nat) : x < x + 1 + a1 + a2 + a3 + a4 + a5 + a6 + a7 + a8 + a9 + a10 + a11 + a12 + a13 + a14 + a15 := by omega
@[go_sem] theorem lt_places_16_1 (x a0 a2 a3 a4 a5 a6 a7 a8 a9 a10 a11 a12 a13 a14 a15 : Nat) : x < x + a0 + 1 + a2 + a3 + a4 + a5 + a6 + a7 + a8 + a9 + a10 + a11 + a12 + a13 + a14 + a15 := by omega
@[go_sem] theorem lt_places_16_2 (x a0 a1 a3 a4 a5 a6 a7 a8 a9 a10 a11 a12 a13 a14 a15 : Nat) : x < x + a0 + a1 + 1 + a3 + a4 + a5 + a6 + a7 + a8 + a9 + a10 + a11 + a12 + a13 + a14 + a15 := by omega
@[go_sem] theorem lt_places_17_0 (x a1 a2 a3 a4 a5 a6 a7 a8 a9 a10 a11 a12 a13 a14 a15 a16 : Nat) : x < x + 1 + a1 + a2 + a3 + a4 + a5 + a6 + a7 + a8 + a9 + a10 + a11 + a12 + a13 + a14 + a15 + a16 := by omega
@[go_sem] theorem lt_places_18_0 (x a1 a2 a3 a4 a5 a6 a7 a8 a9 a10 a11 a12 a13 a14 a15 a16 a17 : Nat) : x < x + 1 + a1 + a2 + a3 + a4 + a5 + a6 + a7 + a8 + a9 + a10 + a11 + a12 + a13 + a14 + a15 + a16 + a17 := by omega
@[go_sem] theorem lt_places_19_0 (x a1 a2 a3 a4 a5 a6 a7 a8 a9 a10 a11 a12 a13 a14 a15 a16 a17 a18 : Nat) : x < x + 1 + a1 + a2 + a3 + a4 + a5 + a6 + a7 + a8 + a9 + a10 + a11 + a12 + a13 + a14 + a15 + a16 + a17 + a18 := by omega
@[go_sem] theorem lt_places_20_0 (x a1 a2 a3 a4 a5 a6 a7 a8 a9 a10 a11 a12 a13 a14 a15 a16 a17 a18 a19 : Nat) : x < x + 1 + a1 + a2 + a3 + a4 + a5 + a6 + a7 + a8 + a9 + a10 + a11 + a12 + a13 + a14 + a15 + a16 + a17 + a18 + a19 := by omega
@[go_sem] theorem lt_places_21_0 (x a1 a2 a3 a4 a5 a6 a7 a8 a9 a10 a11 a12 a13 a14 a15 a16 a17 a18 a19 a20 : Nat) : x < x + 1 + a1 + a2 + a3 + a4 + a5 + a6 + a7 + a8 + a9 + a10 + a11 + a12 + a13 + a14 + a15 + a16 + a17 + a18 + a19 + a20 := by omega
@[go_sem] theorem lt_places_22_0 (x a1 a2 a3 a4 a5 a6 a7 a8 a9 a10 a11 a12 a13 a14 a15 a16 a17 a18 a19 a20 a21 : Nat) : x < x + 1 + a1 + a2 + a3 + a4 + a5 + a6 + a7 + a8 + a9 + a10 + a11 + a12 + a13 + a14 + a15 + a16 + a17 + a18 + a19 + a20 + a21 := by omega
@[go_sem] theorem lt_places_23_0 (x a1 a2 a3 a4 a5 a6 a7 a8 a9 a10 a11 a12 a13 a14 a15 a16 a17 a18 a19 a20 a21 a22 : Nat) : x < x + 1 + a1 + a2 + a3 + a4 + a5 + a6 + a7 + a8 + a9 + a10 + a11 + a12 + a13 + a14 + a15 + a16 + a17 + a18 + a19 + a20 + a21 + a22 := by omega
@[go_sem] theorem lt_places_24_0 (x a1 a2 a3 a4 a5 a6 a7 a8 a9 a10 a11 a12 a13 a14 a15 a16 a17 a18 a19 a20 a21 a22 a23 : Nat) : x < x + 1 + a1 + a2 + a3 + a4 + a5 + a6 + a7 + a8 + a9 + a10 + a11 + a12 + a13 + a14 + a15 + a16 + a17 + a18 + a19 + a20 + a21 + a22 + a23 := by omega
@[go_sem] theorem lt_places_25_0 (x a1 a2 a3 a4 a5 a6 a7 a8 a9 a10 a11 a12 a13 a14 a15 a16 a17 a18 a19 a20 a21 a22 a23 a24 : Nat) : x < x + 1 + a1 + a2 + a3 + a4 + a5 + a6 + a7 + a8 + a9 + a10 + a11 + a12 + a13 + a14 + a15 + a16 + a17 + a18 + a19 + a20 + a21 + a22 + a23 + a24 := by omega
@[go_sem] theorem lt_places_26_0 (x a1 a2 a3 a4 a5 a6 a7 a8 a9 a10 a11 a12 a13 a14 a15 a16 a17 a18 a19 a20 a21 a22 a23 a24 a25 : Nat) : x < x + 1 + a1 + a2 + a3 + a4 + a5 + a6 + a7 + a8 + a9 + a10 + a11 + a12 + a13 + a14 + a15 + a16 + a17 + a18 + a19 + a20 + a21 + a22 + a23 + a24 + a25 := by omega
@[go_sem] theorem lt_places_27_0 (x a1 a2 a3 a4 a5 a6 a7 a8 a9 a10 a11 a12 a13 a14 a15 a16 a17 a18 a19 a20 a21 a22 a23 a24 a25 a26 : Nat) : x < x + 1 + a1 + a2 + a3 + a4 + a5 + a6 + a7 + a8 + a9 + a10 + a11 + a12 + a13 + a14 + a15 + a16 + a17 + a18 + a19 + a20 + a21 + a22 + a23 + a24 + a25 + a26 := by omega
@[go_sem] theorem lt_places_28_0 (x a1 a2 a3 a4 a5 a6 a7 a8 a9 a10 a11 a12 a13 a14 a15 a16 a17 a18 a19 a20 a21 a22 a23 a24 a25 a26 a27 : Nat) : x < x + 1 + a1 + a2 + a3 + a4 + a5 + a6 + a7 + a8 + a9 + a10 + a11 + a12 + a13 + a14 + a15 + a16 + a17 + a18 + a19 + a20 + a21 + a22 + a23 + a24 + a25 + a26 + a27 := by omega
@[go_sem] theorem lt_places_29_0 (x a1 a2 a3 a4 a5 a6 a7 a8 a9 a10 a11 a12 a13 a14 a15 a16 a17 a18 a19 a20 a21 a22 a23 a24 a25 a26 a27 a28 : Nat) : x < x + 1 + a1 + a2 + a3 + a4 + a5 + a6 + a7 + a8 + a9 + a10 + a11 + a12 + a13 + a14 + a15 + a16 + a17 + a18 + a19 + a20 + a21 + a22 + a23 + a24 + a25 + a26 + a27 + a28 := by omega
@[go_sem] theorem lt_places_30_0 (x a1 a2 a3 a4 a5 a6 a7 a8 a9 a10 a11 a12 a13 a14 a15 a16 a17 a18 a19 a20 a21 a22 a23 a24 a25 a26 a27 a28 a29 : Nat) : x < x + 1 + a1 + a2 + a3 + a4 + a5 + a6 + a7 + a8 + a9 + a10 + a11 + a12 + a13 + a14 + a15 + a16 + a17 + a18 + a19 + a20 + a21 + a22 + a23 + a24 + a25 + a26 + a27 + a28 + a29 := by omega
@[go_sem] theorem lt_places_31_0 (x a1 a2 a3 a4 a5 a6 a7 a8 a9 a10 a11 a12 a13 a14 a15 a16 a17 a18 a19 a20 a21 a22 a23 a24 a25 a26 a27 a28 a29 a30 : Nat) : x < x + 1 + a1 + a2 + a3 + a4 + a5 + a6 + a7 + a8 + a9 + a10 + a11 + a12 + a13 + a14 + a15 + a16 + a17 + a18 + a19 + a20 + a21 + a22 + a23 + a24 + a25 + a26 + a27 + a28 + a29 + a30 := by omega
@[go_sem] theorem lt_places_32_0 (x a1 a2 a3 a4 a5 a6 a7 a8 a9 a10 a11 a12 a13 a14 a15 a16 a17 a18 a19 a20 a21 a22 a23 a24 a25 a26 a27 a28 a29 a30 a31 : Nat) : x < x + 1 + a1 + a2 + a3 + a4 + a5 + a6 + a7 + a8 + a9 + a10 + a11 + a12 + a13 + a14 + a15 + a16 + a17 + a18 + a19 + a20 + a21 + a22 + a23 + a24 + a25 + a26 + a27 + a28 + a29 + a30 + a31 := by omega
@[go_sem] theorem lt_places_33_0 (x a1 a2 a3 a4 a5 a6 a7 a8 a9 a10 a11 a12 a13 a14 a15 a16 a17 a18 a19 a20 a21 a22 a23 a24 a25 a26 a27 a28 a29 a30 a31 a32 : Nat) : x < x + 1 + a1 + a2 + a3 + a4 + a5 + a6 + a7 + a8 + a9 + a10 + a11 + a12 + a13 + a14 + a15 + a16 + a17 + a18 + a19 + a20 + a21 + a22 + a23 + a24 + a25 + a26 + a27 + a28 + a29 + a30 + a31 + a32 := by omega
@[go_sem] theorem lt_places_34_0 (x a1 a2 a3 a4 a5 a6 a7 a8 a9 a10 a11 a12 a13 a14 a15 a16 a17 a18 a19 a20 a21 a22 a23 a24 a25 a26 a27 a28 a29 a30 a31 a32 a33 : Nat) : x < x + 1 + a1 + a2 + a3 + a4 + a5 + a6 + a7 + a8 + a9 + a10 + a11 + a12 + a13 + a14 + a15 + a16 + a17 + a18 + a19 + a20 + a21 + a22 + a23 + a24 + a25 + a26 + a27 + a28 + a29 + a30 + a31 + a32 + a33 := by omega
@[go_sem] theorem lt_places_35_0 (x a1 a2 a3 a4 a5 a6 a7 a8 a9 a10 a11 a12 a13 a14 a15 a16 a17 a18 a19 a20 a21 a22 a23 a24 a25 a26 a27 a28 a29 a30 a31 a32 a33 a34 : Nat) : x < x + 1 + a1 + a2 + a3 + a4 + a5 + a6 + a7 + a8 + a9 + a10 + a11 + a12 + a13 + a14 + a15 + a16 + a17 + a18 + a19 + a20 + a21 + a22 + a23 + a24 + a25 + a26 + a27 + a28 + a29 + a30 + a31 + a32 + a33 + a34 := by omega
@[go_sem] theorem lt_places_36_0 (x a1 a2 a3 a4 a5 a6 a7 a8 a9 a10 a11 a12 a13 a14 a15 a16 a17 a18 a19 a20 a21 a22 a23 a24 a25 a26 a27 a28 a29 a30 a31 a32 a33 a34 a35 : Nat) : x < x + 1 + a1 + a2 + a3 + a4 + a5 + a6 + a7 + a8 + a9 + a10 + a11 + a12 + a13 + a14 + a15 + a16 + a17 + a18 + a19 + a20 + a21 + a22 + a23 + a24 + a25 + a26 + a27 + a28 + a29 + a30 + a31 + a32 + a33 + a34 + a35 := by omega
end Go
/- Rowed: whole arrays read out of, and written into, blocks. No program in sight. -/
namespace Go
set_option linter.unusedVariables false
set_option linter.unusedSimpArgs false
open Go.RowKit

/-- What block 'g' holds, where it is one of cells. -/
def World.rowAt (w : World) (g : Nat) : Array Value := match w.heap[g]? with | some (.cells c _ _) => c | _ => #[]
/-- May all of block 'g' be written? -/
def World.rowFree (w : World) (g : Nat) : Bool := match w.heap[g]? with | some (.cells _ _ fr) => fr == (0, 0) | _ => false

section
variable (w : World) (δ : Junk)
theorem rowAt_of_heap {w w' : World} {g : Nat} (h : w'.heap[g]? = w.heap[g]?) : w'.rowAt g = w.rowAt g := by simp [World.rowAt, h]
theorem rowFree_of_heap {w w' : World} {g : Nat} (h : w'.heap[g]? = w.heap[g]?) : w'.rowFree g = w.rowFree g := by simp [World.rowFree, h]
@[go_sem] theorem rowAt_alloc_at (c : Array Value) (t : TypeId) (fr : Nat × Nat) (n : Nat) (hn : n = w.heap.size) : (w.alloc (.cells c t fr)).rowAt n = c := by
  subst hn; unfold World.rowAt; rw [heap_alloc_new]
@[go_sem] theorem rowAt_alloc_past (o : Obj) (n : Nat) (hn : n < w.heap.size) : (w.alloc o).rowAt n = w.rowAt n := rowAt_of_heap (Go.heap_alloc_old w o hn)
@[go_sem] theorem rowFree_alloc_at (c : Array Value) (t : TypeId) (n : Nat) (hn : n = w.heap.size) : (w.alloc (.cells c t)).rowFree n = true := by
  subst hn; unfold World.rowFree; rw [heap_alloc_new]; rfl
@[go_sem] theorem rowFree_alloc_past (o : Obj) (n : Nat) (hn : n < w.heap.size) : (w.alloc o).rowFree n = w.rowFree n := rowFree_of_heap (Go.heap_alloc_old w o hn)
@[go_sem] theorem rowAt_grow_old (n : Nat) (hn : n < w.heap.size) : (w.grow δ).rowAt n = w.rowAt n := rowAt_of_heap (heap_grow_old w δ n hn)
@[go_sem] theorem rowFree_grow_old (n : Nat) (hn : n < w.heap.size) : (w.grow δ).rowFree n = w.rowFree n := rowFree_of_heap (heap_grow_old w δ n hn)
@[go_sem] theorem rowAt_drew (n : Nat) : w.drew.rowAt n = w.rowAt n := rfl
@[go_sem] theorem rowFree_drew (n : Nat) : w.drew.rowFree n = w.rowFree n := rfl
@[go_sem] theorem rowAt_drewN (k n : Nat) : (w.drewN k).rowAt n = w.rowAt n := rfl
@[go_sem] theorem rowFree_drewN (k n : Nat) : (w.drewN k).rowFree n = w.rowFree n := rfl
theorem row_of_size {n g : Nat} (h : (w.rowAt g).size = n + 1) : ∃ t fr, w.heap[g]? = some (.cells (w.rowAt g) t fr) := by
  unfold World.rowAt at *
  split at h
  · rename_i c t fr e; rw [e]; exact ⟨t, fr, rfl⟩
  · simp at h
theorem row_lt {n g : Nat} (h : (w.rowAt g).size = n + 1) : g < w.heap.size := by
  obtain ⟨t, fr, hg⟩ := row_of_size w h
  exact (Array.getElem?_eq_some_iff.1 hg).1
theorem row_of_free {g : Nat} (h : w.rowFree g = true) : ∃ t, w.heap[g]? = some (.cells (w.rowAt g) t (0, 0)) := by
  unfold World.rowFree at h
  unfold World.rowAt
  split at h
  · rename_i c t fr e; rw [e]; exact ⟨t, by simp at h; rw [h]⟩
  · simp at h

theorem cell_rowAt (g i : Nat) : w.cell? ⟨g, i, none⟩ = (w.rowAt g)[i]? := by
  unfold World.cell? World.rowAt
  split <;> simp_all
@[go_sem] theorem setRow_alloc_at (c cs : Array Value) (t : TypeId) (fr : Nat × Nat) (n : Nat) (hn : n = w.heap.size) : (w.alloc (.cells c t fr)).setRow n cs = w.alloc (.cells cs t fr) := by
  subst hn
  unfold World.setRow World.alloc
  congr 1
  apply Array.ext
  · simp
  · intro k h1 h2
    simp only [Array.getElem_modify, Array.getElem_push]
    split
    · subst_vars; simp
    · split <;> simp_all
      omega
@[go_sem] theorem setRow_alloc_past (o : Obj) (cs : Array Value) (n : Nat) (hn : n < w.heap.size) : (w.alloc o).setRow n cs = (w.setRow n cs).alloc o := by
  unfold World.setRow World.alloc
  congr 1
  apply Array.ext
  · simp
  · intro k h1 h2
    simp only [Array.getElem_modify, Array.getElem_push, Array.size_modify]
    split
    · rename_i hk; subst hk; simp [hn]
    · split <;> rfl
@[go_sem] theorem setRow_grow (cs : Array Value) (n : Nat) (hn : n < w.heap.size) : (w.grow δ).setRow n cs = (w.setRow n cs).grow δ := by
  unfold World.setRow World.grow
  congr 1
  apply Array.ext
  · simp
  · intro k h1 h2
    simp only [Array.getElem_modify, Array.getElem_append, Array.size_modify]
    split
    · rename_i hk; subst hk; simp [hn]
    · split <;> rfl
@[go_sem] theorem setRow_drew (cs : Array Value) (n : Nat) : w.drew.setRow n cs = (w.setRow n cs).drew := rfl
@[go_sem] theorem setRow_drewN (k : Nat) (cs : Array Value) (n : Nat) : (w.drewN k).setRow n cs = (w.setRow n cs).drewN k := rfl
attribute [go_sem] setRow_size

/-- Is a type an array or a struct of 'n' cells? -/
def Program.rowType (P : Program) (ty : TypeId) (n : Nat) : Bool :=
  (match P.underlying ty with | some (.struct _) | some (.array _ _) => true | _ => false) && (P.info? ty).map (·.size) == some n
theorem run_load_row {P : Program} {ty : TypeId} {n g : Nat} (ht : P.rowType ty (n + 1) = true) (h : (w.rowAt g).size = n + 1) :
    (Instr.loadAt ty (.pointer (some ⟨g, 0, none⟩))).run P w = .ok (.agg (w.rowAt g)) w := by
  obtain ⟨t, fr, hg⟩ := row_of_size w h
  unfold Program.rowType at ht
  simp only [Bool.and_eq_true, beq_iff_eq] at ht
  cases hu : P.underlying ty with
  | none => simp [hu] at ht
  | some d =>
    have hd : (match d with | .struct _ | .array _ _ => true | _ => false) = true := by
      have := ht.1; rw [hu] at this; cases d <;> simp_all
    simp only [Instr.loadAt, Instr.sureAddr, Sem.run_bind, Sem.run_pure, Result.andThen_ok, run_loadVar_row w g t ty _ fr d hg hu hd (by rw [h]; exact ht.2)]
theorem run_store_row {P : Program} {ty : TypeId} {n g : Nat} {cs : Array Value} (ht : P.rowType ty n = true) (hf : w.rowFree g = true) (h : (w.rowAt g).size = n) (hc : cs.size = n) (h1 : cs.all (·.oneCell') = true) :
    (Instr.storeAt ty (.pointer (some ⟨g, 0, none⟩)) (.agg cs)).run P w = .ok () (w.setRow g cs) := by
  obtain ⟨t, hg⟩ := row_of_free w hf
  unfold Program.rowType at ht
  simp only [Bool.and_eq_true, beq_iff_eq] at ht
  simp only [Instr.storeAt, Instr.sureAddr, Sem.run_bind, Sem.run_pure, Result.andThen_ok, run_storeVar_row w g t ty _ cs hg (by rw [hc]; exact ht.2) (by rw [h, hc]) h1]
/-- The three operations on a variable that is a row, under names that the walk does not open. -/
def rowLoad (ty : TypeId) (v : Value) : Sem Next := do let x ← Instr.loadAt ty v; pure (.value x)
def rowStore (ty : TypeId) (p v : Value) : Sem Next := do Instr.storeAt ty p v; pure .skip
def rowAlloc (ty : TypeId) : Sem Next := do let x ← Instr.alloc ty true (.tuple #[]); pure (.value x)
theorem run_rowLoad {P : Program} {ty : TypeId} {n g : Nat} (ht : P.rowType ty (n + 1) = true) (h : (w.rowAt g).size = n + 1) :
    (rowLoad ty (.pointer (some ⟨g, 0, none⟩))).run P w = .ok (.value (.agg (w.rowAt g))) w := by
  simp only [rowLoad, Sem.run_bind, run_load_row w ht h, Result.andThen_ok, Sem.run_pure]
theorem run_rowStore {P : Program} {ty : TypeId} {n g : Nat} {cs : Array Value} (ht : P.rowType ty n = true) (hf : w.rowFree g = true) (h : (w.rowAt g).size = n) (hc : cs.size = n) (h1 : cs.all (·.oneCell') = true) :
    (rowStore ty (.pointer (some ⟨g, 0, none⟩)) (.agg cs)).run P w = .ok .skip (w.setRow g cs) := by
  simp only [rowStore, Sem.run_bind, run_store_row w ht hf h hc h1, Result.andThen_ok, Sem.run_pure]
theorem run_rowAlloc {P : Program} {ty : TypeId} {cs : Array Value} (hz : (P.info? ty).map (·.zero) = some (some (.agg cs))) :
    (rowAlloc ty).run P w = .ok (.value (.pointer (some ⟨w.heap.size, 0, none⟩))) (w.alloc (.cells cs ty)) := by
  cases hq : P.info? ty with
  | none => simp [hq] at hz
  | some i =>
    have hi : i.zero = some (.agg cs) := by simpa [hq] using hz
    simp [rowAlloc, Instr.alloc, zeroValue, typeInfo, hq, hi, newVar, newRow, Value.cells]
/-- A result that lies in a block. -/
theorem run_result_row {P : Program} {fn : Func} {p : Tmp} {ty : TypeId} {n g : Nat} (hr : fn.results = #[.cell p ty]) (tmps : Array Value) (hp : tmps.getD p undef = .pointer (some ⟨g, 0, none⟩)) (ht : P.rowType ty (n + 1) = true) (h : (w.rowAt g).size = n + 1) :
    (results fn tmps).run P w = .ok (.agg (w.rowAt g)) w := by
  obtain ⟨t, fr, hg⟩ := row_of_size w h
  unfold Program.rowType at ht
  simp only [Bool.and_eq_true, beq_iff_eq] at ht
  cases hu : P.underlying ty with
  | none => simp [hu] at ht
  | some d =>
    have hd : (match d with | .struct _ | .array _ _ => true | _ => false) = true := by
      have := ht.1; rw [hu] at this; cases d <;> simp_all
    exact results_cell_row hr tmps w g t _ fr d hp hg hu hd (by rw [h]; exact ht.2)
end
end Go
/- What lay ahead of the call lies ahead of all that comes. No program in sight. -/
namespace Go
set_option linter.unusedVariables false
set_option linter.unusedSimpArgs false
@[go_sem] theorem lt_world_1 (w : World) (s a0 : Nat) (h : s < w.heap.size) : s < w.heap.size + a0 := by omega
@[go_sem] theorem lt_world_2 (w : World) (s a0 a1 : Nat) (h : s < w.heap.size) : s < w.heap.size + a0 + a1 := by omega
@[go_sem] theorem lt_world_3 (w : World) (s a0 a1 a2 : Nat) (h : s < w.heap.size) : s < w.heap.size + a0 + a1 + a2 := by omega
@[go_sem] theorem lt_world_4 (w : World) (s a0 a1 a2 a3 : Nat) (h : s < w.heap.size) : s < w.heap.size + a0 + a1 + a2 + a3 := by omega
@[go_sem] theorem lt_world_5 (w : World) (s a0 a1 a2 a3 a4 : Nat) (h : s < w.heap.size) : s < w.heap.size + a0 + a1 + a2 + a3 + a4 := by omega
@[go_sem] theorem lt_world_6 (w : World) (s a0 a1 a2 a3 a4 a5 : Nat) (h : s < w.heap.size) : s < w.heap.size + a0 + a1 + a2 + a3 + a4 + a5 := by omega
@[go_sem] theorem lt_world_7 (w : World) (s a0 a1 a2 a3 a4 a5 a6 : Nat) (h : s < w.heap.size) : s < w.heap.size + a0 + a1 + a2 + a3 + a4 + a5 + a6 := by omega
@[go_sem] theorem lt_world_8 (w : World) (s a0 a1 a2 a3 a4 a5 a6 a7 : Nat) (h : s < w.heap.size) : s < w.heap.size + a0 + a1 + a2 + a3 + a4 + a5 + a6 + a7 := by omega
@[go_sem] theorem lt_world_9 (w : World) (s a0 a1 a2 a3 a4 a5 a6 a7 a8 : Nat) (h : s < w.heap.size) : s < w.heap.size + a0 + a1 + a2 + a3 + a4 + a5 + a6 + a7 + a8 := by omega
@[go_sem] theorem lt_world_10 (w : World) (s a0 a1 a2 a3 a4 a5 a6 a7 a8 a9 : Nat) (h : s < w.heap.size) : s < w.heap.size + a0 + a1 + a2 + a3 + a4 + a5 + a6 + a7 + a8 + a9 := by omega
@[go_sem] theorem lt_world_11 (w : World) (s a0 a1 a2 a3 a4 a5 a6 a7 a8 a9 a10 : Nat) (h : s < w.heap.size) : s < w.heap.size + a0 + a1 + a2 + a3 + a4 + a5 + a6 + a7 + a8 + a9 + a10 := by omega
@[go_sem] theorem lt_world_12 (w : World) (s a0 a1 a2 a3 a4 a5 a6 a7 a8 a9 a10 a11 : Nat) (h : s < w.heap.size) : s < w.heap.size + a0 + a1 + a2 + a3 + a4 + a5 + a6 + a7 + a8 + a9 + a10 + a11 := by omega
@[go_sem] theorem lt_world_13 (w : World) (s a0 a1 a2 a3 a4 a5 a6 a7 a8 a9 a10 a11 a12 : Nat) (h : s < w.heap.size) : s < w.heap.size + a0 + a1 + a2 + a3 + a4 + a5 + a6 + a7 + a8 + a9 + a10 + a11 + a12 := by omega
@[go_sem] theorem lt_world_14 (w : World) (s a0 a1 a2 a3 a4 a5 a6 a7 a8 a9 a10 a11 a12 a13 : Nat) (h : s < w.heap.size) : s < w.heap.size + a0 + a1 + a2 + a3 + a4 + a5 + a6 + a7 + a8 + a9 + a10 + a11 + a12 + a13 := by omega
@[go_sem] theorem lt_world_15 (w : World) (s a0 a1 a2 a3 a4 a5 a6 a7 a8 a9 a10 a11 a12 a13 a14 : Nat) (h : s < w.heap.size) : s < w.heap.size + a0 + a1 + a2 + a3 + a4 + a5 + a6 + a7 + a8 + a9 + a10 + a11 + a12 + a13 + a14 := by omega
@[go_sem] theorem lt_world_16 (w : World) (s a0 a1 a2 a3 a4 a5 a6 a7 a8 a9 a10 a11 a12 a13 a14 a15 : Nat) (h : s < w.heap.size) : s < w.heap.size + a0 + a1 + a2 + a3 + a4 + a5 + a6 + a7 + a8 + a9 + a10 + a11 + a12 + a13 + a14 + a15 := by omega
@[go_sem] theorem lt_world_17 (w : World) (s a0 a1 a2 a3 a4 a5 a6 a7 a8 a9 a10 a11 a12 a13 a14 a15 a16 : Nat) (h : s < w.heap.size) : s < w.heap.size + a0 + a1 + a2 + a3 + a4 + a5 + a6 + a7 + a8 + a9 + a10 + a11 + a12 + a13 + a14 + a15 + a16 := by omega
@[go_sem] theorem lt_world_18 (w : World) (s a0 a1 a2 a3 a4 a5 a6 a7 a8 a9 a10 a11 a12 a13 a14 a15 a16 a17 : Nat) (h : s < w.heap.size) : s < w.heap.size + a0 + a1 + a2 + a3 + a4 + a5 + a6 + a7 + a8 + a9 + a10 + a11 + a12 + a13 + a14 + a15 + a16 + a17 := by omega
@[go_sem] theorem lt_world_19 (w : World) (s a0 a1 a2 a3 a4 a5 a6 a7 a8 a9 a10 a11 a12 a13 a14 a15 a16 a17 a18 : Nat) (h : s < w.heap.size) : s < w.heap.size + a0 + a1 + a2 + a3 + a4 + a5 + a6 + a7 + a8 + a9 + a10 + a11 + a12 + a13 + a14 + a15 + a16 + a17 + a18 := by omega
@[go_sem] theorem lt_world_20 (w : World) (s a0 a1 a2 a3 a4 a5 a6 a7 a8 a9 a10 a11 a12 a13 a14 a15 a16 a17 a18 a19 : Nat) (h : s < w.heap.size) : s < w.heap.size + a0 + a1 + a2 + a3 + a4 + a5 + a6 + a7 + a8 + a9 + a10 + a11 + a12 + a13 + a14 + a15 + a16 + a17 + a18 + a19 := by omega
@[go_sem] theorem lt_world_21 (w : World) (s a0 a1 a2 a3 a4 a5 a6 a7 a8 a9 a10 a11 a12 a13 a14 a15 a16 a17 a18 a19 a20 : Nat) (h : s < w.heap.size) : s < w.heap.size + a0 + a1 + a2 + a3 + a4 + a5 + a6 + a7 + a8 + a9 + a10 + a11 + a12 + a13 + a14 + a15 + a16 + a17 + a18 + a19 + a20 := by omega
@[go_sem] theorem lt_world_22 (w : World) (s a0 a1 a2 a3 a4 a5 a6 a7 a8 a9 a10 a11 a12 a13 a14 a15 a16 a17 a18 a19 a20 a21 : Nat) (h : s < w.heap.size) : s < w.heap.size + a0 + a1 + a2 + a3 + a4 + a5 + a6 + a7 + a8 + a9 + a10 + a11 + a12 + a13 + a14 + a15 + a16 + a17 + a18 + a19 + a20 + a21 := by omega
@[go_sem] theorem lt_world_23 (w : World) (s a0 a1 a2 a3 a4 a5 a6 a7 a8 a9 a10 a11 a12 a13 a14 a15 a16 a17 a18 a19 a20 a21 a22 : Nat) (h : s < w.heap.size) : s < w.heap.size + a0 + a1 + a2 + a3 + a4 + a5 + a6 + a7 + a8 + a9 + a10 + a11 + a12 + a13 + a14 + a15 + a16 + a17 + a18 + a19 + a20 + a21 + a22 := by omega
@[go_sem] theorem lt_world_24 (w : World) (s a0 a1 a2 a3 a4 a5 a6 a7 a8 a9 a10 a11 a12 a13 a14 a15 a16 a17 a18 a19 a20 a21 a22 a23 : Nat) (h : s < w.heap.size) : s < w.heap.size + a0 + a1 + a2 + a3 + a4 + a5 + a6 + a7 + a8 + a9 + a10 + a11 + a12 + a13 + a14 + a15 + a16 + a17 + a18 + a19 + a20 + a21 + a22 + a23 := by omega
@[go_sem] theorem lt_world_25 (w : World) (s a0 a1 a2 a3 a4 a5 a6 a7 a8 a9 a10 a11 a12 a13 a14 a15 a16 a17 a18 a19 a20 a21 a22 a23 a24 : Nat) (h : s < w.heap.size) : s < w.heap.size + a0 + a1 + a2 + a3 + a4 + a5 + a6 + a7 + a8 + a9 + a10 + a11 + a12 + a13 + a14 + a15 + a16 + a17 + a18 + a19 + a20 + a21 + a22 + a23 + a24 := by omega
@[go_sem] theorem lt_world_26 (w : World) (s a0 a1 a2 a3 a4 a5 a6 a7 a8 a9 a10 a11 a12 a13 a14 a15 a16 a17 a18 a19 a20 a21 a22 a23 a24 a25 : Nat) (h : s < w.heap.size) : s < w.heap.size + a0 + a1 + a2 + a3 + a4 + a5 + a6 + a7 + a8 + a9 + a10 + a11 + a12 + a13 + a14 + a15 + a16 + a17 + a18 + a19 + a20 + a21 + a22 + a23 + a24 + a25 := by omega
@[go_sem] theorem lt_world_27 (w : World) (s a0 a1 a2 a3 a4 a5 a6 a7 a8 a9 a10 a11 a12 a13 a14 a15 a16 a17 a18 a19 a20 a21 a22 a23 a24 a25 a26 : Nat) (h : s < w.heap.size) : s < w.heap.size + a0 + a1 + a2 + a3 + a4 + a5 + a6 + a7 + a8 + a9 + a10 + a11 + a12 + a13 + a14 + a15 + a16 + a17 + a18 + a19 + a20 + a21 + a22 + a23 + a24 + a25 + a26 := by omega
@[go_sem] theorem lt_world_28 (w : World) (s a0 a1 a2 a3 a4 a5 a6 a7 a8 a9 a10 a11 a12 a13 a14 a15 a16 a17 a18 a19 a20 a21 a22 a23 a24 a25 a26 a27 : Nat) (h : s < w.heap.size) : s < w.heap.size + a0 + a1 + a2 + a3 + a4 + a5 + a6 + a7 + a8 + a9 + a10 + a11 + a12 + a13 + a14 + a15 + a16 + a17 + a18 + a19 + a20 + a21 + a22 + a23 + a24 + a25 + a26 + a27 := by omega
@[go_sem] theorem lt_world_29 (w : World) (s a0 a1 a2 a3 a4 a5 a6 a7 a8 a9 a10 a11 a12 a13 a14 a15 a16 a17 a18 a19 a20 a21 a22 a23 a24 a25 a26 a27 a28 : Nat) (h : s < w.heap.size) : s < w.heap.size + a0 + a1 + a2 + a3 + a4 + a5 + a6 + a7 + a8 + a9 + a10 + a11 + a12 + a13 + a14 + a15 + a16 + a17 + a18 + a19 + a20 + a21 + a22 + a23 + a24 + a25 + a26 + a27 + a28 := by omega
@[go_sem] theorem lt_world_30 (w : World) (s a0 a1 a2 a3 a4 a5 a6 a7 a8 a9 a10 a11 a12 a13 a14 a15 a16 a17 a18 a19 a20 a21 a22 a23 a24 a25 a26 a27 a28 a29 : Nat) (h : s < w.heap.size) : s < w.heap.size + a0 + a1 + a2 + a3 + a4 + a5 + a6 + a7 + a8 + a9 + a10 + a11 + a12 + a13 + a14 + a15 + a16 + a17 + a18 + a19 + a20 + a21 + a22 + a23 + a24 + a25 + a26 + a27 + a28 + a29 := by omega
@[go_sem] theorem lt_world_31 (w : World) (s a0 a1 a2 a3 a4 a5 a6 a7 a8 a9 a10 a11 a12 a13 a14 a15 a16 a17 a18 a19 a20 a21 a22 a23 a24 a25 a26 a27 a28 a29 a30 : Nat) (h : s < w.heap.size) : s < w.heap.size + a0 + a1 + a2 + a3 + a4 + a5 + a6 + a7 + a8 + a9 + a10 + a11 + a12 + a13 + a14 + a15 + a16 + a17 + a18 + a19 + a20 + a21 + a22 + a23 + a24 + a25 + a26 + a27 + a28 + a29 + a30 := by omega
@[go_sem] theorem lt_world_32 (w : World) (s a0 a1 a2 a3 a4 a5 a6 a7 a8 a9 a10 a11 a12 a13 a14 a15 a16 a17 a18 a19 a20 a21 a22 a23 a24 a25 a26 a27 a28 a29 a30 a31 : Nat) (h : s < w.heap.size) : s < w.heap.size + a0 + a1 + a2 + a3 + a4 + a5 + a6 + a7 + a8 + a9 + a10 + a11 + a12 + a13 + a14 + a15 + a16 + a17 + a18 + a19 + a20 + a21 + a22 + a23 + a24 + a25 + a26 + a27 + a28 + a29 + a30 + a31 := by omega
theorem places_of (w : World) (s : Nat) (h : s < w.heap.size) : (∀ a0 : Nat, s < w.heap.size + a0) ∧ (∀ a0 a1 : Nat, s < w.heap.size + a0 + a1) ∧ (∀ a0 a1 a2 : Nat, s < w.heap.size + a0 + a1 + a2) ∧ (∀ a0 a1 a2 a3 : Nat, s < w.heap.size + a0 + a1 + a2 + a3) ∧ (∀ a0 a1 a2 a3 a4 : Nat, s < w.heap.size + a0 + a1 + a2 + a3 + a4) ∧ (∀ a0 a1 a2 a3 a4 a5 : Nat, s < w.heap.size + a0 + a1 + a2 + a3 + a4 + a5) ∧ (∀ a0 a1 a2 a3 a4 a5 a6 : Nat, s < w.heap.size + a0 + a1 + a2 + a3 + a4 + a5 + a6) ∧ (∀ a0 a1 a2 a3 a4 a5 a6 a7 : Nat, s < w.heap.size + a0 + a1 + a2 + a3 + a4 + a5 + a6 + a7) ∧ (∀ a0 a1 a2 a3 a4 a5 a6 a7 a8 : Nat, s < w.heap.size + a0 + a1 + a2 + a3 + a4 + a5 + a6 + a7 + a8) ∧ (∀ a0 a1 a2 a3 a4 a5 a6 a7 a8 a9 : Nat, s < w.heap.size + a0 + a1 + a2 + a3 + a4 + a5 + a6 + a7 + a8 + a9) ∧ (∀ a0 a1 a2 a3 a4 a5 a6 a7 a8 a9 a10 : Nat, s < w.heap.size + a0 + a1 + a2 + a3 + a4 + a5 + a6 + a7 + a8 + a9 + a10) ∧ (∀ a0 a1 a2 a3 a4 a5 a6 a7 a8 a9 a10 a11 : Nat, s < w.heap.size + a0 + a1 + a2 + a3 + a4 + a5 + a6 + a7 + a8 + a9 + a10 + a11) ∧ (∀ a0 a1 a2 a3 a4 a5 a6 a7 a8 a9 a10 a11 a12 : Nat, s < w.heap.size + a0 + a1 + a2 + a3 + a4 + a5 + a6 + a7 + a8 + a9 + a10 + a11 + a12) ∧ (∀ a0 a1 a2 a3 a4 a5 a6 a7 a8 a9 a10 a11 a12 a13 : Nat, s < w.heap.size + a0 + a1 + a2 + a3 + a4 + a5 + a6 + a7 + a8 + a9 + a10 + a11 + a12 + a13) :=
  ⟨fun _ => by omega, fun _ _ => by omega, fun _ _ _ => by omega, fun _ _ _ _ => by omega, fun _ _ _ _ _ => by omega, fun _ _ _ _ _ _ => by omega, fun _ _ _ _ _ _ _ => by omega, fun _ _ _ _ _ _ _ _ => by omega, fun _ _ _ _ _ _ _ _ _ => by omega, fun _ _ _ _ _ _ _ _ _ _ => by omega, fun _ _ _ _ _ _ _ _ _ _ _ => by omega, fun _ _ _ _ _ _ _ _ _ _ _ _ => by omega, fun _ _ _ _ _ _ _ _ _ _ _ _ _ => by omega, fun _ _ _ _ _ _ _ _ _ _ _ _ _ _ => by omega⟩
end Go
/- A row written anew. No program in sight. -/
namespace Go
set_option linter.unusedVariables false
set_option linter.unusedSimpArgs false
section
variable (w : World) (g : Nat) (cs : Array Value)
theorem heap_setRow_free (h : w.rowFree g = true) : ∃ t, (w.setRow g cs).heap[g]? = some (.cells cs t (0, 0)) := by
  obtain ⟨t, ht⟩ := row_of_free w h
  exact ⟨t, setRow_heap w g _ cs t _ ht⟩
@[go_sem] theorem cell_setRow_free (h : w.rowFree g = true) (i : Nat) : (w.setRow g cs).cell? ⟨g, i, none⟩ = cs[i]? := by
  obtain ⟨t, ht⟩ := heap_setRow_free w g cs h
  simp [World.cell?, ht]
@[go_sem] theorem frozen_setRow_free (h : w.rowFree g = true) (i : Nat) : (w.setRow g cs).frozen? ⟨g, i, none⟩ = false := by
  obtain ⟨t, ht⟩ := heap_setRow_free w g cs h
  simp [World.frozen?, ht]
@[go_sem] theorem setCell_setRow_free (h : w.rowFree g = true) (i : Nat) (v : Value) : (w.setRow g cs).setCell ⟨g, i, none⟩ v = w.setRow g (cs.setIfInBounds i v) := by
  obtain ⟨t, ht⟩ := heap_setRow_free w g cs h
  rw [setCell_eq_setRow _ g i cs t _ v ht, setRow_setRow]
@[go_sem] theorem rowAt_setRow_free (h : w.rowFree g = true) : (w.setRow g cs).rowAt g = cs := by
  obtain ⟨t, ht⟩ := heap_setRow_free w g cs h
  simp [World.rowAt, ht]
@[go_sem] theorem rowFree_setRow_free (h : w.rowFree g = true) : (w.setRow g cs).rowFree g = true := by
  obtain ⟨t, ht⟩ := heap_setRow_free w g cs h
  simp [World.rowFree, ht]
theorem setRow_same' (h : w.rowFree g = true) : w.setRow g (w.rowAt g) = w := by
  obtain ⟨t, ht⟩ := row_of_free w h
  have hlt : g < w.heap.size := (Array.getElem?_eq_some_iff.1 ht).1
  have hv : w.heap[g] = .cells (w.rowAt g) t (0, 0) := (Array.getElem?_eq_some_iff.1 ht).2
  unfold World.setRow
  cases w with
  | mk heap tape drawn os output =>
    congr 1
    apply Array.ext
    · simp
    · intro k h1 h2
      simp only [Array.getElem_modify]
      split
      · rename_i hk; subst hk; simp only at hv; rw [hv]
      · rfl
end
end Go
namespace Go.Proofs.Ytccadhfeiehmbaa
open Go.RowKit
set_option maxRecDepth 100000
theorem there_row {w : World} {g o n : Nat} (hf : w.rowFree g = true) (h : o + n ≤ (w.rowAt g).size) : w.there g o n := fun j hj => by
  obtain ⟨t, hg⟩ := row_of_free w hf
  refine ⟨?_, ?_⟩
  · rw [cell_rowAt, Array.getElem?_eq_getElem (by omega)]; rfl
  · have := frozen_setRow_free w g (w.rowAt g) hf (o + j)
    rwa [setRow_same' _ _ hf] at this
theorem grownBy_setRow (w : World) (g : Nat) (cs : Array Value) : w.grownBy (w.setRow g cs) (some g) :=
  ⟨rfl, rfl, rfl, by rw [setRow_size]; exact Nat.le_refl _, fun k _ hne => by
    have : g ≠ k := fun h => hne (by rw [h])
    unfold World.setRow
    simp [Array.getElem?_modify, this]⟩
theorem World.heap_setRow_ne (w : World) (g : Nat) (cs : Array Value) (k : Nat) (h : g ≠ k) : (w.setRow g cs).heap[k]? = w.heap[k]? := by
  unfold World.setRow
  simp [Array.getElem?_modify, h]
end Go.Proofs.Ytccadhfeiehmbaa
/- Slices of single cells: what they show, and rows of the call's own to which is appended. No program in sight. -/
namespace Go
set_option linter.unusedVariables false
set_option linter.unusedSimpArgs false
theorem Grew.grown {a b c : World} {row : Option Nat} (h : Grew a b) (hg : b.grownBy c row) (hrow : ∀ k, row = some k → a.heap.size ≤ k) : Grew a c := by
  refine Grew.of_below ?_
  have hb := h.below
  exact ⟨hg.os.trans hb.os, hg.tape.trans hb.tape, hg.output.trans hb.output, Nat.le_trans h.size hg.size,
    fun k hk => (hg.block k (Nat.lt_of_lt_of_le hk h.size) (fun e => by have := hrow k e.symm; omega)).trans (h.heap hk)⟩
theorem add_off (b o j : Nat) : (⟨b, o, none⟩ : Addr).add j = ⟨b, o + j, none⟩ := by
  unfold Addr.add
  split <;> simp_all
/-- The slice shows these cells. -/
def Shows (w : World) (v : Value) (xs : List Value) : Prop :=
  (∃ b o c, v = .slice (some ⟨b, o, none⟩) xs.length c ∧ b < w.heap.size ∧ ∀ j u, xs[j]? = some u → w.cell? ⟨b, o + j, none⟩ = some u) ∨ (∃ p c, v = .slice p 0 c ∧ xs = [])
theorem Shows.grew {w w' : World} {v : Value} {xs : List Value} (h : Shows w v xs) (g : Grew w w') : Shows w' v xs := by
  rcases h with ⟨b, o, c, rfl, hb, h⟩ | h
  · exact .inl ⟨b, o, c, rfl, Nat.lt_of_lt_of_le hb g.size, fun j u hj => g.cell (h j u hj)⟩
  · exact .inr h
/-- A row of the call's own, made behind 'base'. -/
def OwnR (w : World) (base : Nat) (e : TypeId) (v : Value) (xs : List Value) : Prop := w.ownsRow base e 1 v xs.length xs
theorem OwnR.nil (w : World) (base : Nat) (e : TypeId) : OwnR w base e (.slice none 0 0) [] := World.ownsRow_nil w base e 1
theorem OwnR.shows {w : World} {base : Nat} {e : TypeId} {v : Value} {xs : List Value} (h : OwnR w base e v xs) : Shows w v xs := by
  rcases h.2 with ⟨rfl, h0⟩ | ⟨g, cap, cur, rfl, hb, hg, hn, hm, hs, ht⟩
  · exact .inr ⟨_, _, rfl, List.length_eq_zero_iff.1 h0⟩
  · refine .inl ⟨g, 0, cap, rfl, (Array.getElem?_eq_some_iff.1 hg).1, fun j u hj => ?_⟩
    have := h.cells (g := g) rfl j u hj
    rw [add_off] at this
    exact this
theorem OwnR.grew {w w' : World} {base : Nat} {e : TypeId} {v : Value} {xs : List Value} (h : OwnR w base e v xs) (g : Grew w w') : OwnR w' base e v xs := by
  refine ⟨h.1, ?_⟩
  rcases h.2 with hn | ⟨b, cap, cur, rfl, hb, hg, rest⟩
  · exact .inl hn
  · exact .inr ⟨b, cap, cur, rfl, hb, (g.heap (Array.getElem?_eq_some_iff.1 hg).1).trans hg, rest⟩
theorem OwnR.base {w : World} {base base' : Nat} {e : TypeId} {v : Value} {xs : List Value} (h : OwnR w base e v xs) (hb : base' ≤ base) : OwnR w base' e v xs := by
  refine ⟨h.1, ?_⟩
  rcases h.2 with hn | ⟨b, cap, cur, rfl, hb', rest⟩
  · exact .inl hn
  · exact .inr ⟨b, cap, cur, rfl, Nat.le_trans hb hb', rest⟩
/-- append, of whatever is shown. -/
theorem run_append_shows {P : Program} (w : World) (base : Nat) (t ty e : TypeId) (i : TypeInfo) (z : Value) (bytes : Nat) (ht : P.underlying t = some (.slice e)) (hi : P.info? e = some i) (hz : i.zero = some z)
    (hsize : i.size = 1) (hby : i.bytes = bytes) (hzs : z.cells.size = 1) (v x : Value) (xs news : List Value) (hown : OwnR w base e v xs) (hx : Shows w x news) (h1 : ∀ u ∈ news, u.oneCell' = true)
    (h63 : xs.length + news.length ≤ maxLen) (hbytes : (xs.length + news.length) * bytes ≤ 140737488355328) (hbase : base ≤ w.heap.size) :
    ∃ v' w', (Builtin.append_ #[t, t] ty #[v, x]).run P w = .ok v' w' ∧ OwnR w' base e v' (xs ++ news) ∧ w.grownBy w' v.ownBlock := by
  have key : ∀ (a : Addr) (c : Nat), (∀ j u, news[j]? = some u → w.cell? (a.add j) = some u) → ∃ v' w', (Builtin.append_ #[t, t] ty #[v, .slice (some a) news.length c]).run P w = .ok v' w' ∧ OwnR w' base e v' (xs ++ news) ∧ w.grownBy w' v.ownBlock := fun a c h => by
    obtain ⟨v', w', hr, h2, h3, _⟩ := run_append_own (P := P) w base t ty e i z 1 bytes ht hi hz hsize hby hzs (by omega) v xs.length xs hown a news.length c news (by omega) h h1 h63 hbytes hbase
    exact ⟨v', w', hr, by unfold OwnR; rw [List.length_append]; exact h2, h3⟩
  rcases hx with ⟨b, o, c, rfl, hb, h⟩ | ⟨p, c, rfl, rfl⟩
  · exact key _ c (fun j u hj => by rw [add_off]; exact h j u hj)
  · cases p with
    | some a => exact key a c (by simp)
    | none =>
      refine ⟨v, w, ?_, by simpa using hown, ⟨rfl, rfl, rfl, Nat.le_refl _, fun _ _ _ => rfl⟩⟩
      rcases hown.2 with ⟨rfl, h0⟩ | ⟨g, cap, cur, rfl, hb, hg, hn, hm, hs, hq⟩
      · simp [Builtin.append_, run_underlying ht, sizeOf, typeInfo, zeroValue, hi, hz, Question.forced, run_firstCells_none, Builtin.lenOf]
      · have hcl : ¬ (cap < xs.length) := by omega
        simp [Builtin.append_, run_underlying ht, sizeOf, typeInfo, zeroValue, hi, hz, Question.forced, run_firstCells_none, Builtin.lenOf, hcl, hn, storeCells]
theorem wpList_append_shows {P : Program} {w : World} {ops : Array Oper} {rest : List Oper} {o : Oper} {a : Act} {Q : Exit → Act → World → Prop} (hgd : o.guard = none) (s x : Operand) (t : TypeId)
    (ho : o.op = .call { callee := .builtin .append, args := #[s, x], argTypes := #[t, t] }) (base : Nat) (e : TypeId) (i : TypeInfo) (z : Value) (bytes : Nat) (ht : P.underlying t = some (.slice e)) (hi : P.info? e = some i) (hz : i.zero = some z)
    (hsize : i.size = 1) (hby : i.bytes = bytes) (hzs : z.cells.size = 1) (v y : Value) (hs : a.eval s = v) (hy : a.eval x = y) (xs news : List Value) (hown : OwnR w base e v xs) (hx : Shows w y news) (h1 : ∀ u ∈ news, u.oneCell' = true)
    (h63 : xs.length + news.length ≤ maxLen) (hbytes : (xs.length + news.length) * bytes ≤ 140737488355328) (hbase : base ≤ w.heap.size)
    (h : ∀ v' w', OwnR w' base e v' (xs ++ news) → w.grownBy w' v.ownBlock → wpList P ops Q rest (a.put o.dst v') w') : wpList P ops Q (o :: rest) a w := by
  obtain ⟨v', w', hr, h2, h3⟩ := run_append_shows (P := P) w base t o.type e i z bytes ht hi hz hsize hby hzs v y xs news hown hx h1 h63 hbytes hbase
  exact Lib.wpList_append_run w hgd s x t t ho v y hs hy v' w' hr (h v' w' h2 h3)
/-- Another row stays. -/
theorem OwnR.kept {w w' : World} {base : Nat} {e : TypeId} {v : Value} {xs : List Value} {row : Option Nat} (h : OwnR w base e v xs) (hg : w.grownBy w' row) (hne : v.ownBlock = none ∨ v.ownBlock ≠ row) : OwnR w' base e v xs :=
  World.ownsRow.kept h hg hne
theorem OwnR.block {w : World} {base : Nat} {e : TypeId} {v : Value} {xs : List Value} (h : OwnR w base e v xs) : ∀ k, v.ownBlock = some k → base ≤ k ∧ k < w.heap.size := World.ownsRow.lt h
/-- What is shown from memory ahead of the row's base stays. -/
theorem Shows.kept {w w' : World} {v : Value} {xs : List Value} {row : Option Nat} (h : Shows w v xs) (hg : w.grownBy w' row) (hne : v.ownBlock = none ∨ v.ownBlock ≠ row) : Shows w' v xs := by
  rcases h with ⟨b, o, c, rfl, hb, h⟩ | h
  · refine .inl ⟨b, o, c, rfl, Nat.lt_of_lt_of_le hb hg.size, fun j u hj => ?_⟩
    have hne' : some b ≠ row := by simpa [Value.ownBlock] using hne
    exact (World.cell?_of_block (hg.block b hb hne')).trans (h j u hj)
  · exact .inr h
end Go
/- Appending to a row of the call's own: one value that was just built; whatever is shown. No program in sight. -/
namespace Go
set_option linter.unusedVariables false
set_option linter.unusedSimpArgs false
open Go.RowKit
theorem shows_one (X : World) (y : Value) (e : TypeId) (c : Nat) : Shows (X.alloc (.cells #[y] e)) (.slice (some ⟨X.heap.size, 0, none⟩) 1 c) [y] := by
  refine .inl ⟨_, _, _, rfl, by simp, fun j u hj => ?_⟩
  cases j with
  | zero =>
    simp only [List.getElem?_cons_zero, Option.some.injEq] at hj
    subst hj
    unfold World.cell?
    rw [show (X.alloc (.cells #[y] e)).heap[X.heap.size]? = some (.cells #[y] e (0, 0)) from heap_alloc_new X _]
    rfl
  | succ j => simp at hj
theorem shows_one_g (X : World) (a : Junk) (y : Value) (e : TypeId) (c : Nat) : Shows ((X.grow a).alloc (.cells #[y] e)) (.slice (some ⟨X.heap.size + a.n, 0, none⟩) 1 c) [y] := by
  have := shows_one (X.grow a) y e c
  rwa [size_grow] at this
theorem shows_one_g2 (X : World) (a b : Junk) (y : Value) (e : TypeId) (c : Nat) : Shows (((X.grow a).grow b).alloc (.cells #[y] e)) (.slice (some ⟨X.heap.size + (⟨a.objs ++ b.objs, b.drawn⟩ : Junk).n, 0, none⟩) 1 c) [y] := by
  rw [grow_grow]; exact shows_one_g X _ y e c
theorem wpList_nil_then {P : Program} {ops : Array Oper} {K : Act → World → Prop} {Q : Exit → Act → World → Prop} {a : Act} {w : World} (h : K a w) : wpList P ops (Exit.then K Q) [] a w := h
/-- append(v, y). -/
theorem wpList_append1 {P : Program} {ops : Array Oper} {rest : List Oper} {o : Oper} {a : Act} {Q : Exit → Act → World → Prop} (hgd : o.guard = none) (s x : Operand) (t : TypeId)
    (ho : o.op = .call { callee := .builtin .append, args := #[s, x], argTypes := #[t, t] }) (e : TypeId) (i : TypeInfo) (z : Value) (bytes : Nat) (ht : P.underlying t = some (.slice e)) (hi : P.info? e = some i) (hz : i.zero = some z)
    (hsize : i.size = 1) (hby : i.bytes = bytes) (hzs : z.cells.size = 1) (w0 X : World) (v y : Value) (hs : a.eval s = v) (hy : a.eval x = .slice (some ⟨X.heap.size, 0, none⟩) 1 1) (xs : List Value) (hg : Grew w0 X) (hown : OwnR X w0.heap.size e v xs) (h1 : y.oneCell' = true)
    (h63 : xs.length + 1 ≤ maxLen) (hbytes : (xs.length + 1) * bytes ≤ 140737488355328)
    (h : ∀ v' w', OwnR w' w0.heap.size e v' (xs ++ [y]) → Grew w0 w' → wpList P ops Q rest (a.put o.dst v') w') : wpList P ops Q (o :: rest) a (X.alloc (.cells #[y] e)) := by
  have hgx : Grew X (X.alloc (.cells #[y] e)) := (Grew.refl X).alloc _
  have hblock := hown.block
  refine wpList_append_shows hgd s x t ho w0.heap.size e i z bytes ht hi hz hsize hby hzs v _ hs hy xs [y] (hown.grew hgx) (shows_one X y e 1) (by simp [h1]) (by simpa using h63) (by simpa using hbytes) (Nat.le_trans hg.size hgx.size) ?_
  intro v' w' ho' hg'
  exact h v' w' ho' ((hg.trans hgx).grown hg' fun k hk => (hblock k hk).1)
/-- append(v, y...). -/
theorem wpList_appends {P : Program} {ops : Array Oper} {rest : List Oper} {o : Oper} {a : Act} {Q : Exit → Act → World → Prop} (hgd : o.guard = none) (s x : Operand) (t : TypeId)
    (ho : o.op = .call { callee := .builtin .append, args := #[s, x], argTypes := #[t, t] }) (e : TypeId) (i : TypeInfo) (z : Value) (bytes : Nat) (ht : P.underlying t = some (.slice e)) (hi : P.info? e = some i) (hz : i.zero = some z)
    (hsize : i.size = 1) (hby : i.bytes = bytes) (hzs : z.cells.size = 1) (w0 X : World) (v y : Value) (hs : a.eval s = v) (hy : a.eval x = y) (xs news : List Value) (hg : Grew w0 X) (hown : OwnR X w0.heap.size e v xs) (hsh : Shows X y news) (h1 : ∀ u ∈ news, u.oneCell' = true)
    (h63 : xs.length + news.length ≤ maxLen) (hbytes : (xs.length + news.length) * bytes ≤ 140737488355328)
    (h : ∀ v' w', OwnR w' w0.heap.size e v' (xs ++ news) → Grew w0 w' → wpList P ops Q rest (a.put o.dst v') w') : wpList P ops Q (o :: rest) a X := by
  have hblock := hown.block
  refine wpList_append_shows hgd s x t ho w0.heap.size e i z bytes ht hi hz hsize hby hzs v _ hs hy xs news hown hsh h1 h63 hbytes hg.size ?_
  intro v' w' ho' hg'
  exact h v' w' ho' (hg.grown hg' fun k hk => (hblock k hk).1)
end Go
/- Regions that draw their order, in which some steps hand back what depends on the world they find (new slices): quiet steps go first as soon as they can; the others go in whatever order, each in whatever world has come meanwhile. No program in sight. -/
namespace Go
set_option linter.unusedVariables false
set_option linter.unusedSimpArgs false
open Go.RowKit
section
variable {P : Program} {ops : Array Oper} {md : Region.Mode}
/-- Whatever order comes, in whatever world has come meanwhile. -/
def wpFlow (P : Program) (md : Region.Mode) (ops : Array Oper) (Q : Exit → Act → World → Prop) : Nat → Array Bool → Act → World → Prop
  | 0, listed, a, w => Region.ready md ops listed = [] ∧ ∀ w', Grew w w' → Q .normal a w'
  | f + 1, listed, a, w =>
    (Region.ready md ops listed = [] → ∀ w', Grew w w' → Q .normal a w') ∧
    ∀ i ∈ Region.ready md ops listed, ∀ w', Grew w w' → wpOp P ops Q i (fun a' w'' => Grew w' w'' ∧ wpFlow P md ops Q f (listed.setIfInBounds i true) a' w'') a w'
theorem wpFlow_mono {Q : Exit → Act → World → Prop} : ∀ (f : Nat) (listed : Array Bool) (a : Act) (w w' : World), Grew w w' → wpFlow P md ops Q f listed a w → wpFlow P md ops Q f listed a w'
  | 0, _, _, _, _, hg, h => ⟨h.1, fun w'' hg' => h.2 w'' (hg.trans hg')⟩
  | f + 1, listed, a, w, w', hg, h => ⟨fun h0 w'' hg' => h.1 h0 w'' (hg.trans hg'), fun i hi w'' hg' => h.2 i hi w'' (hg.trans hg')⟩
theorem wpAny_of_flow {Q : Exit → Act → World → Prop} : ∀ (f : Nat) (listed : Array Bool) (a : Act) (w : World), wpFlow P md ops Q f listed a w → wpAny P md ops Q f listed a w
  | 0, _, _, w, h => ⟨h.1, h.2 w (Grew.refl _)⟩
  | f + 1, listed, a, w, h => ⟨fun h0 => h.1 h0 w (Grew.refl _), fun i hi => wpOp_mono (fun a' w' h' => wpAny_of_flow f _ a' w' h'.2) (h.2 i hi w (Grew.refl _))⟩
theorem GivesIn.sub {H H' : World → Prop} {o : Oper} {v : Value} {a : Act} (hs : ∀ w, H' w → H w) (h : GivesIn P ops H o v a) : GivesIn P ops H' o v a := by
  rcases h with ⟨h1, h2⟩ | h
  · exact .inl ⟨h1, fun w hw => h2 w (hs w hw)⟩
  · exact .inr h
/-- A quiet step goes first. -/
theorem wpFlow_first {i : Nat} {oi : Oper} {v : Value} {Q : Exit → Act → World → Prop} (hQ : ∀ c a w d v, Q (.panic c) (Act.put a d v) w → Q (.panic c) a w)
    (hi : ops[i]? = some oi) (hsel : ∀ (j : Nat) (o : Oper) cs b, ops[j]? = some o → o.op ≠ .select cs b) :
    ∀ (f : Nat) (listed : Array Bool) (a : Act) (w : World),
      (∀ j oj, ops[j]? = some oj → j ≠ i → listed.getD j true = false → (∀ e ∈ oj.after, Region.binds md e = true → e.on ≠ i) → oi.apart ops oj = true) →
      i ∈ Region.ready md ops listed → GivesIn P ops (fun w' => Grew w w') oi v a →
      wpFlow P md ops Q f (listed.setIfInBounds i true) (a.put oi.dst v) w → wpFlow P md ops Q (f + 1) listed a w := by
  have self : ∀ (f : Nat) (listed : Array Bool) (a : Act) (w : World), GivesIn P ops (fun w' => Grew w w') oi v a → wpFlow P md ops Q f (listed.setIfInBounds i true) (a.put oi.dst v) w →
      ∀ w', Grew w w' → wpOp P ops Q i (fun a' w'' => Grew w' w'' ∧ wpFlow P md ops Q f (listed.setIfInBounds i true) a' w'') a w' := fun f listed a w hy Hh w' hg =>
    wpOp_of_gives hi hy hg fun w'' hg' => ⟨hg', wpFlow_mono f _ _ _ _ (hg.trans hg') Hh⟩
  intro f
  induction f with
  | zero =>
    intro listed a w _ hr hy Hh
    refine ⟨fun h => (by rw [h] at hr; cases hr), fun j hj => ?_⟩
    by_cases hji : j = i
    · subst hji; exact self 0 listed a w hy Hh
    · have := ready_mono hj hji
      rw [Hh.1] at this
      cases this
  | succ f ih =>
    intro listed a w hfree hr hy Hh
    refine ⟨fun h => (by rw [h] at hr; cases hr), fun j hj => ?_⟩
    by_cases hji : j = i
    · subst hji; exact self (f + 1) listed a w hy Hh
    · have h1 := Hh.2 j (ready_mono hj hji)
      obtain ⟨hjun, oj, hoj, hall⟩ := mem_ready.1 hj
      have hun := (mem_ready.1 hr).1
      have hnot : ∀ e ∈ oj.after, Region.binds md e = true → e.on ≠ i := fun e he hb heq => by
        have h1 := hall e he hb
        rw [heq, getD_both hun] at h1
        cases h1
      have hfree' : ∀ k ok, ops[k]? = some ok → k ≠ i → (listed.setIfInBounds j true).getD k true = false →
          (∀ e ∈ ok.after, Region.binds md e = true → e.on ≠ i) → oi.apart ops ok = true := fun k ok hk hki hun hno => by
        refine hfree k ok hk hki ?_ hno
        by_cases hjk : j = k
        · subst hjk; exact hjun
        · rw [getD_set_ne true hjk] at hun; exact hun
      have hap := hfree j oj hoj hji hjun hnot
      intro w' hg
      have h2 := wpOp_putG hoj hap (fun cs b => hsel i oi cs b hi) (fun cs b => hsel j oj cs b hoj) hQ hy (h1 w' hg)
      refine wpOp_mono (fun a' w'' h3 => ⟨h3.2.1, ih (listed.setIfInBounds j true) a' w'' hfree' (ready_mono hr (Ne.symm hji)) (h3.1.sub fun x hx => hg.trans (h3.2.1.trans hx)) ?_⟩) h2
      rw [Array.setIfInBounds_comm _ _ hji]
      exact h3.2.2
def Region.flowLex (md : Region.Mode) (ops : Array Oper) : List Nat → Array Bool → Bool
  | [], _ => true
  | k :: ks, listed => (Region.ready md ops listed).contains k && Region.free md ops listed k && Region.flowLex md ops ks (listed.setIfInBounds k true)
theorem wpFlow_lex {Q : Exit → Act → World → Prop} {A : Act} (hQ : ∀ c a w d v, Q (.panic c) (Act.put a d v) w → Q (.panic c) a w) (hsel : Region.noSelect ops = true) {w : World} (f : Nat) :
    ∀ (qs : List Nat) (listed : Array Bool) (a : Act), wpFlow P md ops Q f (Region.listAll listed qs) A w → Region.flowLex md ops qs listed = true → givesAll P ops (fun w' => Grew w w') A qs a → wpFlow P md ops Q (qs.length + f) listed a w
  | [], listed, a, hE, _, h => by
    simp only [givesAll] at h
    subst h
    rw [List.length_nil, Nat.zero_add]
    exact hE
  | k :: qs, listed, a, hE, hB, h => by
    simp only [Region.flowLex, Bool.and_eq_true] at hB
    obtain ⟨⟨hr, hf⟩, hB'⟩ := hB
    obtain ⟨o, d, ho', hd, hy, hk⟩ := h
    have hr' : k ∈ Region.ready md ops listed := by simpa using hr
    rw [List.length_cons, show qs.length + 1 + f = qs.length + f + 1 by omega]
    refine wpFlow_first hQ ho' (Region.noSelect_spec hsel) _ listed a w (Region.free_spec ho' hf) hr' hy ?_
    rw [hd]
    exact wpFlow_lex hQ hsel f qs _ _ hE hB' hk
end
section
variable {P : Program} {l : List Oper} {Q : Exit → Act → World → Prop}
/-- The call in the quiet part of a region's beginning. -/
theorem Calls.pure_of_g3 {f : FuncId} {args : Array Value} {X : World} {a b n : Junk} {v : Value}
    (h : Calls P f args (X.grow ⟨a.objs ++ (b.objs ++ n.objs), n.drawn⟩) fun e w' => e = .returned v ∧ Grew (X.grow ⟨a.objs ++ (b.objs ++ n.objs), n.drawn⟩) w') :
    Calls P f args (X.grow ⟨a.objs ++ (b.objs ++ n.objs), n.drawn⟩) fun e w'' => e = .returned v ∧ ∃ m : Junk, w'' = X.grow ⟨a.objs ++ (b.objs ++ m.objs), m.drawn⟩ :=
  h.mono fun _ _ ⟨he, hm⟩ => ⟨he, by obtain ⟨m, rfl⟩ := hm; exact ⟨⟨n.objs ++ m.objs, m.drawn⟩, by simp [grow_grow, Array.append_assoc]⟩⟩
/-- Quiet steps, in the text's order. -/
theorem wpFlow_quiets (qs : List Nat) {n : Nat} {listed : Array Bool} {a : Act} {w : World} (hn : decide (qs.length ≤ n) = true)
    (hB : (Region.noSelect l.toArray && Region.flowLex .any l.toArray qs listed && envOk qs l.length) = true) (hD : envDsts qs l.toArray a.tmps.size = true)
    (hQ : ∀ c a w d v, Q (.panic c) (Act.put a d v) w → Q (.panic c) a w) (V : Act)
    (hq : ∀ A, Hid (A = V) → ∀ δ', wpQuiet P l.toArray (fun w' => ∃ n, w' = (w.grow δ').grow n) (fun a' => a' = A) (pickOps l qs) a)
    (h : wpFlow P .any l.toArray Q (n - qs.length) (Region.listAll listed qs) V w) : wpFlow P .any l.toArray Q n listed a w := by
  simp only [Bool.and_eq_true] at hB
  obtain ⟨⟨hsel, hlex⟩, hok⟩ := hB
  obtain ⟨f, rfl⟩ : ∃ f, n = qs.length + f := ⟨n - qs.length, by have := of_decide_eq_true hn; omega⟩
  rw [Nat.add_sub_cancel_left] at h
  exact wpFlow_lex hQ hsel f qs listed a h hlex (givesAll_of_quiet (H := fun w' => Grew w w') ⟨w, Grew.refl _⟩ qs (pickOps l qs) a (map_pick l qs hok) hD (fun Y ⟨n, hY⟩ => by subst hY; exact hq V (rfl : V = V) n))
/-- A step of the others. -/
def wpFlowS (P : Program) (l : List Oper) (Q : Exit → Act → World → Prop) (f : Nat) (listed : Array Bool) (k : Nat) (a : Act) (w : World) : Prop :=
  ∀ δ, wpList P l.toArray (Exit.then (fun a' w'' => Grew (w.grow δ) w'' ∧ wpFlow P .any l.toArray Q f (listed.setIfInBounds k true) a' w'') Q) (pickOps l [k]) a (w.grow δ)
theorem wpFlow_of_S {f : Nat} {listed : Array Bool} {a : Act} {w : World} (rs : List Nat) (hr : Region.ready .any l.toArray listed = rs) (hne : rs.isEmpty = false) (hk : envOk rs l.length = true) (h : ∀ k ∈ rs, wpFlowS P l Q f listed k a w) :
    wpFlow P .any l.toArray Q (f + 1) listed a w := by
  refine ⟨fun h0 => (by rw [hr] at h0; rw [h0] at hne; cases hne), fun k hkr w' hg => ?_⟩
  rw [hr] at hkr
  have hlt : k < l.length := by
    unfold envOk at hk
    simpa using List.all_eq_true.1 hk k hkr
  obtain ⟨δ, rfl⟩ := hg
  have h1 := h k hkr δ
  rw [pickOps_cons, pick1_eq l k _ hlt, pickOps_nil] at h1
  unfold wpOp
  simp only [List.getElem?_toArray, List.getElem?_eq_getElem hlt]
  unfold wpList at h1
  split at h1
  · rename_i hw
    rw [if_pos hw]
    rcases h1 with h1 | ⟨h1, a2, w2, h2⟩
    · exact .inl (by
        unfold Oper.wp at *
        generalize (execOp a.eval l[k]).run P (w.grow δ) = r at *
        cases r with
        | ok n w'' =>
          cases n <;> simp only [Oper.upon] at h1 ⊢ <;> first
            | exact h1
            | exact Calls.mono h1 (fun e w'' he => by cases e <;> exact he)
        | halt x w'' => cases x <;> simp only [Oper.upon] at h1 ⊢ <;> exact h1)
    · exact .inr ⟨h1, a2, w2, h2⟩
  · rename_i hw
    rw [if_neg hw]
    exact h1
theorem wpFlow_of_S' {x : Nat} (hx : decide (0 < x) = true) {listed : Array Bool} {a : Act} {w : World} (rs : List Nat) (hr : Region.ready .any l.toArray listed = rs) (hne : rs.isEmpty = false) (hk : envOk rs l.length = true) (h : ∀ k ∈ rs, wpFlowS P l Q (x - 1) listed k a w) :
    wpFlow P .any l.toArray Q x listed a w := by
  obtain ⟨f, rfl⟩ : ∃ f, x = f + 1 := ⟨x - 1, by have := of_decide_eq_true hx; omega⟩
  exact wpFlow_of_S rs hr hne hk h
theorem wpFlowS_intro {f : Nat} {listed : Array Bool} {k : Nat} {a : Act} {w : World} (h : ∀ δ, wpList P l.toArray (Exit.then (fun a' w'' => Grew (w.grow δ) w'' ∧ wpFlow P .any l.toArray Q f (listed.setIfInBounds k true) a' w'') Q) (pickOps l [k]) a (w.grow δ)) : wpFlowS P l Q f listed k a w := h
theorem wpFlow_one {x : Nat} {listed : Array Bool} {a : Act} {w : World} (k : Nat) (hx : decide (0 < x) = true) (hr : Region.ready .any l.toArray listed = [k]) (hk : envOk [k] l.length = true) (h : wpFlowS P l Q (x - 1) listed k a w) :
    wpFlow P .any l.toArray Q x listed a w := wpFlow_of_S' hx [k] hr rfl hk (by intro i hi; simp only [List.mem_singleton] at hi; subst hi; exact h)
theorem wpFlow_two {x : Nat} {listed : Array Bool} {a : Act} {w : World} (k m : Nat) (hx : decide (0 < x) = true) (hr : Region.ready .any l.toArray listed = [k, m]) (hk : envOk [k, m] l.length = true) (h : wpFlowS P l Q (x - 1) listed k a w) (h2 : wpFlowS P l Q (x - 1) listed m a w) :
    wpFlow P .any l.toArray Q x listed a w := wpFlow_of_S' hx [k, m] hr rfl hk (by
  intro i hi; simp only [List.mem_cons, List.not_mem_nil, or_false] at hi
  rcases hi with rfl | rfl
  · exact h
  · exact h2)
theorem wpFlow_three {x : Nat} {listed : Array Bool} {a : Act} {w : World} (k m n : Nat) (hx : decide (0 < x) = true) (hr : Region.ready .any l.toArray listed = [k, m, n]) (hk : envOk [k, m, n] l.length = true) (h : wpFlowS P l Q (x - 1) listed k a w) (h2 : wpFlowS P l Q (x - 1) listed m a w) (h3 : wpFlowS P l Q (x - 1) listed n a w) :
    wpFlow P .any l.toArray Q x listed a w := wpFlow_of_S' hx [k, m, n] hr rfl hk (by
  intro i hi; simp only [List.mem_cons, List.not_mem_nil, or_false] at hi
  rcases hi with rfl | rfl | rfl
  · exact h
  · exact h2
  · exact h3)
theorem wpFlow_end {x : Nat} {listed : Array Bool} {a : Act} {w : World} (hx : decide (x = 0) = true) (hr : (Region.ready .any l.toArray listed).isEmpty = true) (h : ∀ δ, Q .normal a (w.grow δ)) : wpFlow P .any l.toArray Q x listed a w := by
  obtain rfl := of_decide_eq_true hx
  exact ⟨by simpa using hr, fun w' ⟨δ, h'⟩ => h' ▸ h δ⟩
theorem wp_region_flow {id : Nat} {a : Act} {w : World} (hm : P.follows .mixedOrders = true) (h : ∀ δ, wpFlow P .any l.toArray Q l.length (Array.replicate l.length false) a (w.grow δ)) : (Code.region id l.toArray true).wp P Q a w := by
  refine wp_region_any hm (wpAny_of_flow _ _ _ _ ?_)
  have h1 := h ⟨#[], w.drawn + 1⟩
  rw [← drew_is_grow] at h1
  simpa using h1
end
end Go
