/- Base: the world with new memory behind it ('grow'), what a walk needs of it, and regions that draw their order over it. No program in sight. -/
import Derived.WalkKit
import Derived.WalkSpells
import Derived.WalkLawsBesides
import Derived.Deep.QuietTactic
import Derived.BigQuiet
import Derived.StillTailTactics
import Derived.Lib.Hide
import Derived.ChangeKeysEq
namespace Go
set_option linter.unusedVariables false
set_option linter.unusedSimpArgs false
open Go.RowKit

/-- New blocks, and how often the tape has been asked. -/
structure Junk where
  objs : Array Obj
  drawn : Nat

instance : Inhabited Junk := ⟨⟨#[], 0⟩⟩
def Junk.n (δ : Junk) : Nat := δ.objs.size
/-- 'w' with new blocks behind all that it has. -/
def World.grow (w : World) (δ : Junk) : World := { w with heap := w.heap ++ δ.objs, drawn := δ.drawn }

section
variable (w : World) (δ ε : Junk)
@[simp, go_sem] theorem size_grow : (w.grow δ).heap.size = w.heap.size + δ.n := by simp [World.grow, Junk.n]
@[simp, go_sem] theorem tape_grow : (w.grow δ).tape = w.tape := rfl
@[simp, go_sem] theorem os_grow : (w.grow δ).os = w.os := rfl
@[simp, go_sem] theorem output_grow : (w.grow δ).output = w.output := rfl
theorem heap_grow_old (b : Nat) (h : b < w.heap.size) : (w.grow δ).heap[b]? = w.heap[b]? := by
  simp [World.grow, Array.getElem?_append, h]
theorem cell_grow_old (b i : Nat) (s) (h : b < w.heap.size) : (w.grow δ).cell? ⟨b, i, s⟩ = w.cell? ⟨b, i, s⟩ :=
  World.cell?_of_block (heap_grow_old w δ b h)
theorem frozen_grow_old (b i : Nat) (s) (h : b < w.heap.size) : (w.grow δ).frozen? ⟨b, i, s⟩ = w.frozen? ⟨b, i, s⟩ :=
  World.frozen?_of_block (heap_grow_old w δ b h)
@[simp, go_sem] theorem grow_grow : (w.grow δ).grow ε = w.grow ⟨δ.objs ++ ε.objs, ε.drawn⟩ := by
  simp [World.grow, Array.append_assoc]
@[simp, go_sem] theorem grow_drew : (w.grow δ).drew = w.grow ⟨δ.objs, δ.drawn + 1⟩ := rfl
@[simp, go_sem] theorem drew_grow : w.drew.grow δ = w.grow δ := rfl
@[simp, go_sem] theorem grow_drewN (n : Nat) : (w.grow δ).drewN n = w.grow ⟨δ.objs, δ.drawn + n⟩ := rfl
@[simp, go_sem] theorem drewN_grow (n : Nat) : (w.drewN n).grow δ = w.grow δ := rfl
theorem grow_self : w.grow ⟨#[], w.drawn⟩ = w := by simp [World.grow]
theorem drew_is_grow : w.drew = w.grow ⟨#[], w.drawn + 1⟩ := by simp only [World.grow, World.drew, Array.append_empty]
theorem drewN_is_grow (n : Nat) : w.drewN n = w.grow ⟨#[], w.drawn + n⟩ := by simp [World.grow, World.drewN]
theorem alloc_is_grow (o : Obj) : w.alloc o = w.grow ⟨#[o], w.drawn⟩ := by simp only [World.grow, World.alloc, Array.append_singleton]
theorem setCell_grow_old (b i : Nat) (s) (v : Value) (h : b < w.heap.size) : (w.grow δ).setCell ⟨b, i, s⟩ v = (w.setCell ⟨b, i, s⟩ v).grow δ := by
  simp only [World.grow, World.setCell]
  congr 1
  apply Array.ext
  · simp
  · intro k h1 h2
    simp only [Array.getElem_modify, Array.getElem_append, Array.size_modify]
    split
    · rename_i hk; subst hk; simp [h]
    · rename_i hk; split <;> rfl
end

@[go_sem] theorem lt_add_junk (δ : Junk) (a b : Nat) (h : a < b) : a < b + δ.n := by omega
@[go_sem] theorem le_add_junk (δ : Junk) (a b : Nat) (h : a ≤ b) : a ≤ b + δ.n := by omega
attribute [go_sem] cell_grow_old frozen_grow_old setCell_grow_old

/-! ### 'w'' is 'w' with something behind it -/
/-- 'w'' has all that 'w' has, and maybe more behind it. -/
def Grew (w w' : World) : Prop := ∃ δ, w' = w.grow δ
theorem Grew.refl (w : World) : Grew w w := ⟨_, (grow_self w).symm⟩
theorem Grew.trans {a b c : World} (h : Grew a b) (k : Grew b c) : Grew a c := by
  obtain ⟨δ, rfl⟩ := h; obtain ⟨ε, rfl⟩ := k; exact ⟨_, grow_grow a δ ε⟩
theorem Grew.grow {a b : World} (h : Grew a b) (δ : Junk) : Grew a (b.grow δ) := h.trans ⟨δ, rfl⟩
theorem Grew.alloc {a b : World} (h : Grew a b) (o : Obj) : Grew a (b.alloc o) := h.trans ⟨_, alloc_is_grow b o⟩
theorem Grew.drew {a b : World} (h : Grew a b) : Grew a b.drew := h.trans ⟨_, drew_is_grow b⟩
theorem Grew.drewN {a b : World} (h : Grew a b) (n : Nat) : Grew a (b.drewN n) := h.trans ⟨_, drewN_is_grow b n⟩
theorem Grew.size {a b : World} (h : Grew a b) : a.heap.size ≤ b.heap.size := by obtain ⟨δ, rfl⟩ := h; simp
theorem Grew.cell {a b : World} (h : Grew a b) {p : Addr} {v : Value} (hc : a.cell? p = some v) : b.cell? p = some v := by
  obtain ⟨δ, rfl⟩ := h
  exact (World.cell?_of_block (heap_grow_old a δ p.block (World.block_lt_of_cell? a p hc))).trans hc
theorem Grew.heap {a b : World} (h : Grew a b) {k : Nat} (hk : k < a.heap.size) : b.heap[k]? = a.heap[k]? := by
  obtain ⟨δ, rfl⟩ := h; exact heap_grow_old a δ k hk
theorem Grew.below {a b : World} (h : Grew a b) : Below a.heap.size a b := by
  obtain ⟨δ, rfl⟩ := h
  exact ⟨rfl, rfl, rfl, by simp, fun k hk => heap_grow_old a δ k hk⟩
theorem Grew.of_below {a b : World} (h : Below a.heap.size a b) : Grew a b := by
  refine ⟨⟨b.heap.extract a.heap.size b.heap.size, b.drawn⟩, ?_⟩
  obtain ⟨h1, h2, h3, h4, h5⟩ := h
  cases b with
  | mk heap tape drawn os output =>
    simp only [World.grow] at *
    subst h1 h2 h3
    congr 1
    apply Array.ext
    · simp; omega
    · intro k k1 k2
      simp only [Array.getElem_append, Array.getElem_extract]
      split
      · rename_i hk
        have := h5 k hk
        simpa [Array.getElem?_eq_getElem k1, Array.getElem?_eq_getElem hk] using this
      · rename_i hk
        congr 1
        omega

/-- What a callee owes that hands back 'v' and leaves what was as it was. -/
theorem Calls.pure_of {P : Program} {f : FuncId} {args : Array Value} {w : World} {δ : Junk} {v : Value}
    (h : Calls P f args (w.grow δ) fun e w' => e = .returned v ∧ Grew (w.grow δ) w') : Calls P f args (w.grow δ) fun e w'' => e = .returned v ∧ ∃ m, w'' = w.grow m :=
  h.mono fun _ _ ⟨he, hm⟩ => ⟨he, by obtain ⟨m, rfl⟩ := hm; exact ⟨_, grow_grow w δ m⟩⟩

section
variable {P : Program} {ops : Array Oper} {md : Region.Mode} {C : World → Prop}

/-- A region that draws, whose operations and callees leave what was as it was: one walk. -/
theorem wp_region_pure_lit {id : Nat} {Q : Exit → Act → World → Prop} {a : Act} {w : World} {l : List Oper} (hm : P.follows .mixedOrders = true) (hB : Region.lexB .any l.toArray = true)
    (h : wpQuiet P l.toArray (fun w' => ∃ n, w' = w.grow n) (fun a' => ∀ w', (∃ n, w' = w.grow n) → Q .normal a' w') l a) : (Code.region id l.toArray true).wp P Q a w :=
  wp_region_quiet (C := fun w' => ∃ n, w' = w.grow n) hm hB ⟨_, drew_is_grow w⟩ (by simpa using h)

/-- The same where the world bears new memory at its end already: it is forgotten what. -/
theorem wp_region_pure_lit_g {id : Nat} {Q : Exit → Act → World → Prop} {a : Act} {w : World} {δ : Junk} {l : List Oper} (hm : P.follows .mixedOrders = true) (hB : Region.lexB .any l.toArray = true)
    (h : wpQuiet P l.toArray (fun w' => ∃ n, w' = w.grow n) (fun a' => ∀ w', (∃ n, w' = w.grow n) → Q .normal a' w') l a) : (Code.region id l.toArray true).wp P Q a (w.grow δ) :=
  wp_region_quiet (C := fun w' => ∃ n, w' = w.grow n) hm hB ⟨_, grow_drew w δ⟩ (by simpa using h)

/-! ### Such a region with a tail that goes in one order; what only takes a part of a pair may come before or behind the tail's steps -/
/-- 't' waits for 'i', at once or through others. -/
def Region.waitsT (md : Region.Mode) (ops : Array Oper) : Nat → Nat → Nat → Bool
  | 0, _, _ => false
  | f + 1, t, i => match ops[t]? with
    | some o => o.after.any fun e => Region.binds md e && (e.on == i || Region.waitsT md ops f e.on i)
    | none => false
def Oper.takesPart (o : Oper) : Bool := o.guard.isNone && match o.op with | .extract .. => true | _ => false
def Region.headB (md : Region.Mode) (ops : Array Oper) (n : Nat) : Bool :=
  (List.range n).all fun i => ((ops[i]?).map (·.takesPart)).getD false || (List.range ops.size).all fun t => decide (t < n) || Region.waitsT md ops ops.size t i
def Region.mixB (md : Region.Mode) (ops : Array Oper) (n : Nat) : Bool :=
  Region.noSelect ops && decide (n ≤ ops.size) && Region.headB md ops n && Region.lexHead md ops (ops.size - n) n 0 (Array.replicate ops.size false)

def ClosedL (md : Region.Mode) (ops : Array Oper) (listed : Array Bool) : Prop :=
  ∀ j oj, ops[j]? = some oj → listed.getD j false = true → ∀ e ∈ oj.after, Region.binds md e = true → listed.getD e.on false = true

theorem ClosedL.set {i : Nat} {listed : Array Bool} (inv : ClosedL md ops listed) (hi : i ∈ Region.ready md ops listed) : ClosedL md ops (listed.setIfInBounds i true) := by
  obtain ⟨_, oi, hoi, hall⟩ := mem_ready.1 hi
  intro j oj hj hl e he hb
  by_cases hij : i = j
  · subst hij
    have : oj = oi := Option.some.inj (hj.symm.trans hoi)
    subst this
    exact getD_set_true (hall e he hb)
  · rw [getD_set_ne false hij] at hl
    exact getD_set_true (inv j oj hj hl e he hb)

theorem ClosedL.waits {listed : Array Bool} (inv : ClosedL md ops listed) {i : Nat} : ∀ (f x : Nat), listed.getD x false = true → Region.waitsT md ops f x i = true → listed.getD i false = true
  | 0, _, _, h => by simp [Region.waitsT] at h
  | f + 1, x, hx, h => by
    unfold Region.waitsT at h
    split at h
    · rename_i o ho
      obtain ⟨e, he, hb⟩ := Array.any_eq_true'.1 h
      simp only [Bool.and_eq_true, Bool.or_eq_true, beq_iff_eq] at hb
      have h1 := inv x o ho hx e he hb.1
      rcases hb.2 with h2 | h2
      · rw [← h2]; exact h1
      · exact ClosedL.waits inv f _ h1 h2
    · cases h

theorem ClosedL.ready_waits {listed : Array Bool} (inv : ClosedL md ops listed) {i t f : Nat} (ht : t ∈ Region.ready md ops listed) (h : Region.waitsT md ops f t i = true) : listed.getD i false = true := by
  obtain ⟨_, o, ho, hall⟩ := mem_ready.1 ht
  cases f with
  | zero => simp [Region.waitsT] at h
  | succ f =>
    unfold Region.waitsT at h
    rw [ho] at h
    obtain ⟨e, he, hb⟩ := Array.any_eq_true'.1 h
    simp only [Bool.and_eq_true, Bool.or_eq_true, beq_iff_eq] at hb
    have h1 := hall e he hb.1
    rcases hb.2 with h2 | h2
    · rw [← h2]; exact h1
    · exact inv.waits f _ h1 h2

def wpAnyC (P : Program) (md : Region.Mode) (ops : Array Oper) (C : World → Prop) (n : Nat) (Q : Exit → Act → World → Prop) : Nat → Array Bool → Act → Prop
  | 0, listed, a => Region.ready md ops listed = [] ∧ ∀ w, C w → Q .normal a w
  | f + 1, listed, a =>
    (Region.ready md ops listed = [] → ∀ w, C w → Q .normal a w) ∧
    ∀ i ∈ Region.ready md ops listed, if i < n then qOp P ops C i (wpAnyC P md ops C n Q f (listed.setIfInBounds i true)) a else ∀ w, C w → wpOp P ops Q i (wpAny P md ops Q f (listed.setIfInBounds i true)) a w

theorem wpAny_of_C {n : Nat} {Q : Exit → Act → World → Prop} : ∀ (f : Nat) (listed : Array Bool) (a : Act) (w : World), C w → wpAnyC P md ops C n Q f listed a → wpAny P md ops Q f listed a w
  | 0, _, _, _, hw, h => ⟨h.1, h.2 _ hw⟩
  | f + 1, listed, a, w, hw, h => ⟨fun h0 => h.1 h0 _ hw, fun i hi => by
      have := h.2 i hi
      split at this
      · exact wpOp_of_qOp hw (fun a' w' hw' h' => wpAny_of_C f _ a' w' hw' h') this
      · exact this w hw⟩

theorem wpAnyC_of_tail {n : Nat} {Q : Exit → Act → World → Prop} (g : Nat) (listed : Array Bool) (a : Act) (hr : ∀ j ∈ Region.ready md ops listed, n ≤ j)
    (w0 : World) (hw0 : C w0) (h : ∀ w, C w → wpAny P md ops Q g listed a w) : wpAnyC P md ops C n Q g listed a := by
  cases g with
  | zero => exact ⟨(h w0 hw0).1, fun w hw => (h w hw).2⟩
  | succ g => exact ⟨fun h0 w hw => (h w hw).1 h0, fun i hi => by rw [if_neg (by have := hr i hi; omega)]; exact fun w hw => (h w hw).2 i hi⟩

theorem yields_of_part {oi : Oper} {v : Value} {a : Act} {w : World} (hp : oi.takesPart = true) (hw : C w) (hy : YieldsIn P ops C oi v a) : Yields P ops oi v a := by
  unfold Oper.takesPart at hp
  simp only [Bool.and_eq_true] at hp
  rcases hy with ⟨h1, h2⟩ | ⟨h1, h2⟩
  · refine .inl ⟨h1, fun w' => ?_⟩
    have h3 := h2 w hw
    unfold Oper.quietAt at h3
    have hop := hp.2
    cases ho : oi.op <;> simp only [ho, Bool.false_eq_true] at hop
    rename_i t k
    simp only [execOp, ho] at h3 ⊢
    unfold Instr.extract at h3 ⊢
    cases ht : a.eval t <;> simp only [ht] at h3 ⊢ <;> try (simp [Oper.quietUpon, stuck, Sem.run] at h3; done)
    rename_i vs
    cases hv : vs[k]? <;> simp only [hv] at h3 ⊢
    · simp [Oper.quietUpon, stuck, Sem.run] at h3
    · simp [Oper.quietUpon, Sem.run] at h3 ⊢
      exact h3
  · exact .inr ⟨h1, h2⟩

theorem wpAnyC_first {n i : Nat} {oi : Oper} {v : Value} {Q : Exit → Act → World → Prop} (w0 : World) (hw0 : C w0) (hQ : ∀ c a w d v, Q (.panic c) (Act.put a d v) w → Q (.panic c) a w)
    (hi : ops[i]? = some oi) (hsel : ∀ (j : Nat) (o : Oper) cs b, ops[j]? = some o → o.op ≠ .select cs b) (hin : i < n)
    (hsink : oi.takesPart = true ∨ ∀ t, n ≤ t → t < ops.size → Region.waitsT md ops ops.size t i = true) :
    ∀ (f : Nat) (listed : Array Bool) (a : Act), ClosedL md ops listed →
      (∀ j oj, ops[j]? = some oj → j ≠ i → listed.getD j true = false → (∀ e ∈ oj.after, Region.binds md e = true → e.on ≠ i) → oi.apart ops oj = true) →
      i ∈ Region.ready md ops listed → YieldsIn P ops C oi v a →
      wpAnyC P md ops C n Q f (listed.setIfInBounds i true) (a.put oi.dst v) → wpAnyC P md ops C n Q (f + 1) listed a := by
  intro f
  induction f with
  | zero =>
    intro listed a inv _ hr hy H
    refine ⟨fun h => (by rw [h] at hr; cases hr), fun j hj => ?_⟩
    by_cases hji : j = i
    · subst hji; rw [if_pos hin]; exact hy.qOp hi H
    · have := ready_mono hj hji
      rw [H.1] at this
      cases this
  | succ f ih =>
    intro listed a inv hfree hr hy H
    refine ⟨fun h => (by rw [h] at hr; cases hr), fun j hj => ?_⟩
    by_cases hji : j = i
    · subst hji; rw [if_pos hin]; exact hy.qOp hi H
    · have h1 := H.2 j (ready_mono hj hji)
      obtain ⟨hjun, oj, hoj, hall⟩ := mem_ready.1 hj
      have hun := (mem_ready.1 hr).1
      have hnot : ∀ e ∈ oj.after, Region.binds md e = true → e.on ≠ i := fun e he hb heq => by
        have h1 := hall e he hb
        rw [heq, getD_both hun] at h1
        cases h1
      have hfree' : ∀ k ok, ops[k]? = some ok → k ≠ i → (listed.setIfInBounds j true).getD k true = false →
          (∀ e ∈ ok.after, Region.binds md e = true → e.on ≠ i) → oi.apart ops ok = true := fun k ok hk hki hun hno => by
        refine hfree k ok hk hki ?_ hno
        by_cases hjk : j = k
        · subst hjk; exact hjun
        · rw [getD_set_ne true hjk] at hun; exact hun
      by_cases hjn : j < n
      · rw [if_pos hjn] at h1 ⊢
        have h2 := qOp_put hoj (hfree j oj hoj hji hjun hnot) (fun cs b => hsel i oi cs b hi) (fun cs b => hsel j oj cs b hoj) hy h1
        refine qOp_mono (fun a' h3 => ih (listed.setIfInBounds j true) a' (inv.set hj) hfree' (ready_mono hr (Ne.symm hji)) h3.1 ?_) h2
        rw [Array.setIfInBounds_comm _ _ hji]
        exact h3.2
      · rw [if_neg hjn] at h1 ⊢
        rcases hsink with hp | hsink
        · intro w hw
          have hy' := yields_of_part hp hw0 hy
          have h2 := wpOp_put hoj (hfree j oj hoj hji hjun hnot) (fun cs b => hsel i oi cs b hi) (fun cs b => hsel j oj cs b hoj) (fun c a w h => hQ c a w _ _ h) hy' (h1 w hw)
          refine wpOp_mono (fun a' w' h3 => wpAny_first hi hsel (fun c a w h => hQ c a w _ _ h) f (listed.setIfInBounds j true) a' w' hfree' (ready_mono hr (Ne.symm hji)) h3.1 ?_) h2
          rw [Array.setIfInBounds_comm _ _ hji]
          exact h3.2
        · have h2 := inv.ready_waits hj (hsink j (by omega) (Array.getElem?_eq_some_iff.1 hoj).1)
          rw [getD_both hun] at h2
          cases h2

theorem wpAnyC_lex {n g : Nat} {Q : Exit → Act → World → Prop} (w0 : World) (hw0 : C w0) (hQ : ∀ c a w d v, Q (.panic c) (Act.put a d v) w → Q (.panic c) a w) (hsel : Region.noSelect ops = true)
    (hs : Region.headB md ops n = true) (tl : List Oper) (htl : ∀ j, tl[j]? = ops[n + j]?) (hg : tl.length = g) :
    ∀ (l : List Oper) (k : Nat) (listed : Array Bool) (a : Act), (∀ j, j < l.length → l[j]? = ops[k + j]?) → k + l.length = n → ClosedL md ops listed →
    Region.lexHead md ops g l.length k listed = true → wpQuiet P ops C (fun a' => ∀ w', C w' → wpList P ops Q tl a' w') l a →
    wpAnyC P md ops C n Q (l.length + g) listed a
  | [], k, listed, a, _, hk, _, hB, h => by
    have : k = n := by simpa using hk
    subst this
    have hB' : Region.seqB md ops g k listed = true := by simpa [Region.lexHead] using hB
    rw [List.length_nil, Nat.zero_add]
    refine wpAnyC_of_tail g listed a (seqB_ready hB') w0 hw0 fun w hw => ?_
    have := wpAny_of_seq (md := md) (Q' := Q) tl k listed a w htl (by rw [hg]; exact hB') (h w hw)
    rwa [hg] at this
  | o :: l, k, listed, a, hl, hk, inv, hB, h => by
    have h0 : ops[k]? = some o := by simpa using (hl 0 (by simp)).symm
    simp only [List.length_cons, Region.lexHead, Bool.and_eq_true] at hB
    obtain ⟨⟨hr, hf⟩, hB'⟩ := hB
    have hkn : k < n := by simp only [List.length_cons] at hk; omega
    have hr' : k ∈ Region.ready md ops listed := by simpa using hr
    have hst : qOp P ops C k (wpQuiet P ops C (fun a' => ∀ w', C w' → wpList P ops Q tl a' w') l) a := by unfold qOp; simp only [h0]; exact h
    obtain ⟨v, hy, hK⟩ := yieldsIn_of_qOp h0 hst
    have hsink : o.takesPart = true ∨ ∀ t, n ≤ t → t < ops.size → Region.waitsT md ops ops.size t k = true := by
      have h1 := List.all_eq_true.1 hs k (List.mem_range.2 hkn)
      simp only [h0, Option.map_some, Option.getD_some, Bool.or_eq_true] at h1
      rcases h1 with h1 | h1
      · exact .inl h1
      · refine .inr fun t ht htl => ?_
        have h2 := List.all_eq_true.1 h1 t (List.mem_range.2 htl)
        simp only [Bool.or_eq_true, decide_eq_true_eq] at h2
        rcases h2 with h2 | h2
        · omega
        · exact h2
    have := wpAnyC_first w0 hw0 hQ h0 (Region.noSelect_spec hsel) hkn hsink (l.length + g) listed a inv (Region.free_spec h0 hf) hr' hy
      (wpAnyC_lex w0 hw0 hQ hsel hs tl htl hg l (k + 1) _ _ (fun j hj => by have := hl (j + 1) (by simp; omega); simpa [Nat.add_assoc, Nat.add_comm 1 j] using this) (by simp only [List.length_cons] at hk; omega) (inv.set hr') hB' hK)
    rw [List.length_cons, show l.length + 1 + g = l.length + g + 1 by omega]
    exact this

theorem wp_region_pure_tailC {id : Nat} {Q : Exit → Act → World → Prop} {a : Act} {w : World} {l : List Oper} (n : Nat) (hm : P.follows .mixedOrders = true) (hB : Region.mixB .any l.toArray n = true)
    (hQ : ∀ c a w d v, Q (.panic c) (Act.put a d v) w → Q (.panic c) a w) (hC : C { w with drawn := w.drawn + 1 })
    (h : wpQuiet P l.toArray C (fun a' => ∀ w', C w' → wpList P l.toArray Q (l.drop n) a' w') (l.take n) a) : (Code.region id l.toArray true).wp P Q a w := by
  simp only [Region.mixB, Bool.and_eq_true, decide_eq_true_eq] at hB
  obtain ⟨⟨⟨hsel, hn⟩, hs⟩, hlex⟩ := hB
  have hn' : n ≤ l.length := by simpa using hn
  have htl : (l.take n).length = n := by simp; omega
  have hdl : (l.drop n).length = l.toArray.size - n := by simp
  have inv0 : ClosedL .any l.toArray (Array.replicate l.toArray.size false) := fun j oj _ hl => (by rw [getD_replicate_false] at hl; cases hl)
  refine wp_region_any hm (wpAny_of_C (n := n) (C := C) _ _ _ _ hC ?_)
  have H := wpAnyC_lex (md := .any) (g := l.toArray.size - n) _ hC hQ hsel hs (l.drop n) (fun j => by simp [List.getElem?_drop]) hdl (l.take n) 0 _ a (fun j hj => by
    have hj' : j < n := by rw [htl] at hj; exact hj
    simp [hj']) (by simpa using htl) inv0 (by rw [htl]; exact hlex) h
  rw [htl, show n + (l.toArray.size - n) = l.toArray.size by omega] at H
  exact H

/-- The first 'n' operations leave what was as it was, and may come in whatever order their edges allow; behind them stands a tail in one order. -/
theorem wp_region_pure_tail {id : Nat} {Q : Exit → Act → World → Prop} {a : Act} {w : World} {l : List Oper} (n : Nat) (hm : P.follows .mixedOrders = true) (hB : Region.mixB .any l.toArray n = true)
    (hQ : ∀ c a w d v, Q (.panic c) (Act.put a d v) w → Q (.panic c) a w)
    (h : wpQuiet P l.toArray (fun w' => ∃ n, w' = w.grow n) (fun a' => ∀ w', (∃ n, w' = w.grow n) → wpList P l.toArray Q (l.drop n) a' w') (l.take n) a) : (Code.region id l.toArray true).wp P Q a w :=
  wp_region_pure_tailC n hm hB hQ ⟨_, drew_is_grow w⟩ h
theorem wp_region_pure_tail_g {id : Nat} {Q : Exit → Act → World → Prop} {a : Act} {w : World} {δ : Junk} {l : List Oper} (n : Nat) (hm : P.follows .mixedOrders = true) (hB : Region.mixB .any l.toArray n = true)
    (hQ : ∀ c a w d v, Q (.panic c) (Act.put a d v) w → Q (.panic c) a w)
    (h : wpQuiet P l.toArray (fun w' => ∃ n, w' = w.grow n) (fun a' => ∀ w', (∃ n, w' = w.grow n) → wpList P l.toArray Q (l.drop n) a' w') (l.take n) a) : (Code.region id l.toArray true).wp P Q a (w.grow δ) :=
  wp_region_pure_tailC n hm hB hQ ⟨_, grow_drew w δ⟩ h
end

/-! ### Arrays of integers, held against one another -/
section
variable {P : Program} (w : World)
theorem run_part_int {e : TypeId} {k : IntKind} (he : P.underlying e = some (.int k)) (cs : Array Value) (i : Nat) (v : Value) (hv : cs[i]? = some v) : (part e cs i).run P w = .ok v w := by
  simp [part, isAgg, run_underlying he, hv]
theorem run_eqItems_ints {e : TypeId} {k k' : IntKind} (d : Nat) (he : P.underlying e = some (.int k')) (xs ys : List Int) : ∀ (is : List Nat), (∀ i ∈ is, i < xs.length ∧ i < ys.length) →
    (Op.eqItems (d + 1) e 1 (xs.map (Value.int k)).toArray (ys.map (Value.int k)).toArray is).run P w = .ok (is.all fun i => xs.getD i 0 == ys.getD i 0) w
  | [], _ => by simp [Op.eqItems]
  | i :: is, h => by
    obtain ⟨h1, h2⟩ := h i (by simp)
    have ih := run_eqItems_ints (k := k) d he xs ys is (fun j hj => h j (by simp [hj]))
    have p1 : (part e (xs.map (Value.int k)).toArray (i * 1)).run P w = .ok (.int k (xs.getD i 0)) w := run_part_int w he _ _ _ (by simp [h1])
    have p2 : (part e (ys.map (Value.int k)).toArray (i * 1)).run P w = .ok (.int k (ys.getD i 0)) w := run_part_int w he _ _ _ (by simp [h2])
    simp only [Op.eqItems, Sem.run_bind, p1, p2, Result.andThen_ok, run_equalIn_int w d e k k' _ _ he, List.all_cons]
    cases hb : (xs.getD i 0 == ys.getD i 0)
    · simp
    · simp only [Bool.not_true, Bool.false_eq_true, if_false, Bool.true_and]; exact ih
theorem run_equalIn_ints {t e : TypeId} {k k' : IntKind} {n : Nat} (d : Nat) (ht : P.underlying t = some (.array n e)) (he : P.underlying e = some (.int k')) (hc : P.cellsOf e = 1) (xs ys : List Int) (hx : xs.length = n) (hy : ys.length = n) :
    (Op.equalIn (d + 2) t (.agg (xs.map (Value.int k)).toArray) (.agg (ys.map (Value.int k)).toArray)).run P w = .ok (decide (xs = ys)) w := by
  obtain ⟨i, hi⟩ := info_of_underlying he
  rw [run_equalIn_array w (d + 1) _ _ ht hi, hc, run_eqItems_ints w d he xs ys (List.range n) (fun i hi => by have := List.mem_range.1 hi; omega)]
  congr 1
  rw [Bool.eq_iff_iff, decide_eq_true_eq, List.all_eq_true]
  constructor
  · intro h
    apply List.ext_getElem (by omega)
    intro i h1 h2
    have := h i (List.mem_range.2 (by omega))
    simpa [h1, h2] using this
  · intro h i _
    simp [h]
end
end Go
