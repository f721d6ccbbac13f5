/- Regions that draw their order, in which steps that make or write memory stand beside calls: each such step is run in whatever world the calls have left so far. No program in sight. -/
import Derived.Test.YtmnnmndnpkanlaaBase
namespace Go
set_option linter.unusedVariables false
set_option linter.unusedSimpArgs false
open Go.RowKit
section
variable {P : Program} {ops : Array Oper} {md : Region.Mode} {H : World → Prop}

/-- In every world of the class 'o' yields 'v', and leaves what was as it was. -/
def GivesIn (P : Program) (ops : Array Oper) (H : World → Prop) (o : Oper) (v : Value) (a : Act) : Prop :=
  (Region.wanted o (yielded ops a.tmps) = true ∧ ∀ w, H w → o.quietAt P a (fun w' => Grew w w') w v) ∨
  (Region.wanted o (yielded ops a.tmps) = false ∧ v = undef)

theorem GivesIn.of_same {o : Oper} {v : Value} {a a' : Act} (hy : GivesIn P ops H o v a) (he : execOp a'.eval o = execOp a.eval o)
    (hw : Region.wanted o (yielded ops a'.tmps) = Region.wanted o (yielded ops a.tmps)) : GivesIn P ops H o v a' := by
  unfold GivesIn Oper.quietAt at *
  rw [he, hw]
  exact hy

theorem GivesIn.keep {oi oj : Oper} {v : Value} {a : Act} (hap : oi.apart ops oj = true) (hsi : ∀ cs b, oi.op ≠ .select cs b) (hy : GivesIn P ops H oi v a) (u : Value) : GivesIn P ops H oi v (a.put oj.dst u) := by
  obtain ⟨_, _, h3⟩ := Oper.apart_spec hap
  exact hy.of_same (execOp_put oi hsi a oj.dst u h3) (wanted_put oi a oj.dst u h3)

/-- 'oj' is carried out ahead of 'oi', which gives its value all the same. -/
theorem wpOp_putG {j : Nat} {Q : Exit → Act → World → Prop} {oi oj : Oper} {v : Value} (hj : ops[j]? = some oj) (hap : oi.apart ops oj = true)
    (hsi : ∀ cs b, oi.op ≠ .select cs b) (hsj : ∀ cs b, oj.op ≠ .select cs b)
    (hQ : ∀ c a w d v, Q (.panic c) (Act.put a d v) w → Q (.panic c) a w) {K : Act → World → Prop} {a : Act} {w : World}
    (hy : GivesIn P ops H oi v a) (h : wpOp P ops Q j K (a.put oi.dst v) w) :
    wpOp P ops Q j (fun a' w' => GivesIn P ops H oi v a' ∧ K (a'.put oi.dst v) w') a w := by
  obtain ⟨h1, h2, h3⟩ := Oper.apart_spec hap
  have keep : ∀ (a : Act), GivesIn P ops H oi v a → ∀ u, GivesIn P ops H oi v (a.put oj.dst u) := fun a hy u => hy.keep hap hsi u
  have keepD : ∀ d, GivesIn P ops H oi v { a with defers := d :: a.defers } := fun d => hy.of_same rfl rfl
  unfold wpOp at *
  simp only [hj] at *
  rw [wanted_put oj a oi.dst v h1] at h
  split
  · rename_i hw
    simp only [hw, if_true] at h
    rcases h with h | ⟨hasks, hlets⟩
    case inr => exact .inr ⟨by unfold Oper.asks at *; rw [execOp_put oj hsj a oi.dst v h1] at hasks; exact hasks, hlets⟩
    refine .inl ?_
    unfold Oper.wp at *
    rw [execOp_put oj hsj a oi.dst v h1] at h
    generalize (execOp a.eval oj).run P w = r at *
    cases r with
    | ok n w' =>
      cases n <;> simp only [Oper.upon] at h ⊢
      case value u => exact ⟨keep a hy u, by rw [← Act.put_comm a v u h2]; exact h⟩
      case skip => exact ⟨keep a hy _, by rw [← Act.put_comm a v undef h2]; exact h⟩
      case defer d =>
        refine ⟨keep _ (keepD d) _, ?_⟩
        rw [← Act.put_comm _ v undef h2, ← Act.put_defers]
        exact h
      case enter f args =>
        refine Calls.mono h fun e w'' he => ?_
        cases e with
        | returned u => exact ⟨keep a hy u, by rw [← Act.put_comm a v u h2]; exact he⟩
        | panicked c => exact hQ _ _ _ _ _ he
        | outgrown => exact he
      case row row args => exact Rows.mono h fun u w'' he => ⟨keep a hy u, by rw [← Act.put_comm a v u h2]; exact he⟩
    | halt x w' =>
      cases x <;> simp only [Oper.upon] at h ⊢
      case panic u => exact hQ _ _ _ _ _ h
  · rename_i hw
    simp only [hw] at h
    exact ⟨keep a hy _, by rw [← Act.put_comm a v undef h2]; exact h⟩

/-- Whatever order comes: a step of 'es' is carried out in whatever world has come meanwhile. -/
def wpAnyE (P : Program) (md : Region.Mode) (ops : Array Oper) (H : World → Prop) (es : List Nat) (Q : Exit → Act → World → Prop) : Nat → Array Bool → Act → World → Prop
  | 0, listed, a, w => Region.ready md ops listed = [] ∧ ∀ w', Grew w w' → H w' → Q .normal a w'
  | f + 1, listed, a, w =>
    (Region.ready md ops listed = [] → ∀ w', Grew w w' → H w' → Q .normal a w') ∧
    ∀ i ∈ Region.ready md ops listed,
      if es.contains i then ∀ w', Grew w w' → H w' → wpOp P ops Q i (fun a' w'' => H w'' ∧ wpAnyE P md ops H es Q f (listed.setIfInBounds i true) a' w'') a w'
      else ∃ o v, ops[i]? = some o ∧ GivesIn P ops H o v a ∧ wpAnyE P md ops H es Q f (listed.setIfInBounds i true) (a.put o.dst v) w

theorem wpAnyE_mono {es : List Nat} {Q : Exit → Act → World → Prop} : ∀ (f : Nat) (listed : Array Bool) (a : Act) (w w' : World), Grew w w' → wpAnyE P md ops H es Q f listed a w → wpAnyE P md ops H es Q f listed a w'
  | 0, _, _, _, _, hg, h => ⟨h.1, fun w'' hg' => h.2 w'' (hg.trans hg')⟩
  | f + 1, listed, a, w, w', hg, h => ⟨fun h0 w'' hg' => h.1 h0 w'' (hg.trans hg'), fun i hi => by
      have := h.2 i hi
      split at this
      · rename_i he; rw [if_pos he]; exact fun w'' hg' => this w'' (hg.trans hg')
      · rename_i he; rw [if_neg he]
        obtain ⟨o, v, ho, hy, hk⟩ := this
        exact ⟨o, v, ho, hy, wpAnyE_mono f _ _ _ _ hg hk⟩⟩

theorem wpOp_of_gives {i : Nat} {o : Oper} {v : Value} {a : Act} {w : World} {Q : Exit → Act → World → Prop} {K : Act → World → Prop} (hi : ops[i]? = some o) (hy : GivesIn P ops H o v a) (hw : H w)
    (h : ∀ w', Grew w w' → K (a.put o.dst v) w') : wpOp P ops Q i K a w := by
  unfold wpOp
  simp only [hi]
  rcases hy with ⟨h1, h2⟩ | ⟨h1, rfl⟩
  · simp only [h1, if_true]
    refine .inl ?_
    have h3 := h2 w hw
    unfold Oper.quietAt at h3
    unfold Oper.wp
    generalize (execOp a.eval o).run P w = r at *
    cases r with
    | ok n w' =>
      cases n <;> simp only [Oper.quietUpon] at h3 <;> simp only [Oper.upon]
      case value u => obtain ⟨e1, e2⟩ := h3; rw [e1, e2]; exact h _ (Grew.refl _)
      case skip => obtain ⟨e1, e2⟩ := h3; rw [e1, ← e2]; exact h _ (Grew.refl _)
      case enter f args =>
        obtain ⟨e1, hc⟩ := h3
        rw [e1]
        exact hc.mono fun e w'' ⟨he, hw''⟩ => by subst he; exact h _ hw''
    | halt x w' => simp only [Oper.quietUpon] at h3
  · simp only [h1, Bool.false_eq_true, if_false]; exact h _ (Grew.refl _)

theorem wpAny_of_E (hH : ∀ w w', H w → Grew w w' → H w') {es : List Nat} {Q : Exit → Act → World → Prop} : ∀ (f : Nat) (listed : Array Bool) (a : Act) (w : World), H w → wpAnyE P md ops H es Q f listed a w → wpAny P md ops Q f listed a w
  | 0, _, _, w, hw, h => ⟨h.1, h.2 w (Grew.refl _) hw⟩
  | f + 1, listed, a, w, hw, h => ⟨fun h0 => h.1 h0 w (Grew.refl _) hw, fun i hi => by
      have := h.2 i hi
      split at this
      · exact wpOp_mono (fun a' w' h' => wpAny_of_E hH f _ a' w' h'.1 h'.2) (this w (Grew.refl _) hw)
      · obtain ⟨o, v, ho, hy, hk⟩ := this
        exact wpOp_of_gives ho hy hw fun w' hg => wpAny_of_E hH f _ _ w' (hH w w' hw hg) (wpAnyE_mono f _ _ _ _ hg hk)⟩

theorem wpAnyE_first {es : List Nat} {i : Nat} {oi : Oper} {v : Value} {Q : Exit → Act → World → Prop} (hQ : ∀ c a w d v, Q (.panic c) (Act.put a d v) w → Q (.panic c) a w)
    (hi : ops[i]? = some oi) (hsel : ∀ (j : Nat) (o : Oper) cs b, ops[j]? = some o → o.op ≠ .select cs b) (hin : es.contains i = false) :
    ∀ (f : Nat) (listed : Array Bool) (a : Act) (w : World),
      (∀ j oj, ops[j]? = some oj → j ≠ i → listed.getD j true = false → (∀ e ∈ oj.after, Region.binds md e = true → e.on ≠ i) → oi.apart ops oj = true) →
      i ∈ Region.ready md ops listed → GivesIn P ops H oi v a →
      wpAnyE P md ops H es Q f (listed.setIfInBounds i true) (a.put oi.dst v) w → wpAnyE P md ops H es Q (f + 1) listed a w := by
  intro f
  induction f with
  | zero =>
    intro listed a w _ hr hy Hh
    refine ⟨fun h => (by rw [h] at hr; cases hr), fun j hj => ?_⟩
    by_cases hji : j = i
    · subst hji; rw [if_neg (by rw [hin]; exact Bool.false_ne_true)]; exact ⟨oi, v, hi, hy, Hh⟩
    · have := ready_mono hj hji
      rw [Hh.1] at this
      cases this
  | succ f ih =>
    intro listed a w hfree hr hy Hh
    refine ⟨fun h => (by rw [h] at hr; cases hr), fun j hj => ?_⟩
    by_cases hji : j = i
    · subst hji; rw [if_neg (by rw [hin]; exact Bool.false_ne_true)]; exact ⟨oi, v, hi, hy, Hh⟩
    · have h1 := Hh.2 j (ready_mono hj hji)
      obtain ⟨hjun, oj, hoj, hall⟩ := mem_ready.1 hj
      have hun := (mem_ready.1 hr).1
      have hnot : ∀ e ∈ oj.after, Region.binds md e = true → e.on ≠ i := fun e he hb heq => by
        have h1 := hall e he hb
        rw [heq, getD_both hun] at h1
        cases h1
      have hfree' : ∀ k ok, ops[k]? = some ok → k ≠ i → (listed.setIfInBounds j true).getD k true = false →
          (∀ e ∈ ok.after, Region.binds md e = true → e.on ≠ i) → oi.apart ops ok = true := fun k ok hk hki hun hno => by
        refine hfree k ok hk hki ?_ hno
        by_cases hjk : j = k
        · subst hjk; exact hjun
        · rw [getD_set_ne true hjk] at hun; exact hun
      have hap := hfree j oj hoj hji hjun hnot
      by_cases hje : es.contains j = true
      · rw [if_pos hje] at h1 ⊢
        intro w' hg hw'
        have h2 := wpOp_putG hoj hap (fun cs b => hsel i oi cs b hi) (fun cs b => hsel j oj cs b hoj) hQ hy (h1 w' hg hw')
        refine wpOp_mono (fun a' w'' h3 => ⟨h3.2.1, ih (listed.setIfInBounds j true) a' w'' hfree' (ready_mono hr (Ne.symm hji)) h3.1 ?_⟩) h2
        rw [Array.setIfInBounds_comm _ _ hji]
        exact h3.2.2
      · rw [if_neg hje] at h1 ⊢
        obtain ⟨o', u, ho', hu, hk⟩ := h1
        have : oj = o' := Option.some.inj (hoj.symm.trans ho')
        subst this
        obtain ⟨g1, g2, g3⟩ := Oper.apart_spec hap
        refine ⟨oj, u, hoj, ?_, ih (listed.setIfInBounds j true) _ w hfree' (ready_mono hr (Ne.symm hji)) (hy.keep hap (fun cs b => hsel i oi cs b hi) u) ?_⟩
        · exact hu.of_same (execOp_put oj (fun cs b => hsel j oj cs b hoj) a oi.dst v g1).symm (wanted_put oj a oi.dst v g1).symm
        · rw [Array.setIfInBounds_comm _ _ hji, ← Act.put_comm a v u g2]
          exact hk

/-! ### The lexical walk: each quiet operation gives the value that the frame at the end bears -/
/-- The steps that are no step of 'es', in the text's order, give what 'A' bears. -/
def givesAll (P : Program) (ops : Array Oper) (H : World → Prop) (A : Act) : List Nat → Act → Prop
  | [], a => a = A
  | i :: rest, a => ∃ o d, ops[i]? = some o ∧ o.dst = some d ∧ GivesIn P ops H o (A.tmps.getD d undef) a ∧ givesAll P ops H A rest (a.put (some d) (A.tmps.getD d undef))

/-- The steps of 'es', each in whatever world has come meanwhile. -/
def wpEnv (P : Program) (ops : Array Oper) (H : World → Prop) (Q : Exit → Act → World → Prop) : List Oper → Act → World → Prop
  | [], a, w => ∀ w', Grew w w' → H w' → Q .normal a w'
  | o :: rest, a, w => ∀ w', Grew w w' → H w' → wpList P ops (Exit.then (fun a' w'' => H w'' ∧ wpEnv P ops H Q rest a' w'') Q) [o] a w'

def Region.envSeq (md : Region.Mode) (ops : Array Oper) : List Nat → Array Bool → Bool
  | [], listed => (Region.ready md ops listed).isEmpty
  | k :: ks, listed => decide (Region.ready md ops listed = [k]) && Region.envSeq md ops ks (listed.setIfInBounds k true)
def Region.envLex (md : Region.Mode) (ops : Array Oper) (es : List Nat) : List Nat → Array Bool → Bool
  | [], listed => Region.envSeq md ops es listed
  | k :: ks, listed => (Region.ready md ops listed).contains k && Region.free md ops listed k && !es.contains k && Region.envLex md ops es ks (listed.setIfInBounds k true)

theorem wpAnyE_of_env {es : List Nat} {Q : Exit → Act → World → Prop} : ∀ (ks : List Nat) (ol : List Oper) (listed : Array Bool) (a : Act) (w : World), (∀ k ∈ ks, es.contains k = true) → ks.map (fun k => ops[k]?) = ol.map some →
    Region.envSeq md ops ks listed = true → wpEnv P ops H Q ol a w → wpAnyE P md ops H es Q ks.length listed a w
  | [], ol, listed, a, w, _, ho, hB, h => by
    cases ol with
    | nil => exact ⟨by simpa [Region.envSeq] using hB, h⟩
    | cons o l => simp at ho
  | k :: ks, ol, listed, a, w, hes, ho, hB, h => by
    cases ol with
    | nil => simp at ho
    | cons o l =>
      simp only [List.map_cons, List.cons.injEq] at ho
      simp only [Region.envSeq, Bool.and_eq_true, decide_eq_true_eq] at hB
      refine ⟨fun h1 => (by rw [hB.1] at h1; cases h1), fun i hi => ?_⟩
      rw [hB.1] at hi
      have hik : i = k := by simpa using hi
      subst hik
      rw [if_pos (hes i (by simp))]
      intro w' hg hw'
      have h1 := h w' hg hw'
      unfold wpOp
      simp only [ho.1]
      unfold wpList at h1
      split at h1
      · rename_i hw
        rw [if_pos hw]
        rcases h1 with h1 | ⟨h1, a2, w2, h2⟩
        · have h3 : o.wp P a w' (fun a' w'' => H w'' ∧ wpEnv P ops H Q l a' w'') Q := ?h3
          exact .inl (Oper.wp_mono (fun a' w'' (h2 : H w'' ∧ wpEnv P ops H Q l a' w'') => ⟨h2.1, wpAnyE_of_env ks l _ a' w'' (fun k hk => hes k (by simp [hk])) ho.2 hB.2 h2.2⟩) h3)
          unfold Oper.wp at *
          generalize (execOp a.eval o).run P w' = r at *
          cases r with
          | ok n w'' =>
            cases n <;> simp only [Oper.upon] at h1 ⊢ <;> first
              | exact h1
              | exact Calls.mono h1 (fun e w'' he => by cases e <;> exact he)
          | halt x w'' => cases x <;> simp only [Oper.upon] at h1 ⊢ <;> exact h1
        · exact .inr ⟨h1, a2, w2, h2⟩
      · rename_i hw
        rw [if_neg hw]
        exact ⟨h1.1, wpAnyE_of_env ks l _ _ w' (fun k hk => hes k (by simp [hk])) ho.2 hB.2 h1.2⟩

theorem wpAnyE_lex {es : List Nat} {Q : Exit → Act → World → Prop} {A : Act} {ol : List Oper} (hQ : ∀ c a w d v, Q (.panic c) (Act.put a d v) w → Q (.panic c) a w) (hsel : Region.noSelect ops = true)
    (ho : es.map (fun k => ops[k]?) = ol.map some) {w : World} (hE : wpEnv P ops H Q ol A w) :
    ∀ (qs : List Nat) (listed : Array Bool) (a : Act), Region.envLex md ops es qs listed = true → givesAll P ops H A qs a → wpAnyE P md ops H es Q (qs.length + es.length) listed a w
  | [], listed, a, hB, h => by
    simp only [givesAll] at h
    subst h
    rw [List.length_nil, Nat.zero_add]
    exact wpAnyE_of_env es ol listed a w (fun k hk => by simpa using hk) ho (by simpa [Region.envLex] using hB) hE
  | k :: qs, listed, a, hB, h => by
    simp only [Region.envLex, Bool.and_eq_true] at hB
    obtain ⟨⟨⟨hr, hf⟩, hne⟩, hB'⟩ := hB
    obtain ⟨o, d, ho', hd, hy, hk⟩ := h
    have hr' : k ∈ Region.ready md ops listed := by simpa using hr
    rw [List.length_cons, show qs.length + 1 + es.length = qs.length + es.length + 1 by omega]
    refine wpAnyE_first hQ ho' (Region.noSelect_spec hsel) (by simpa using hne) _ listed a w (Region.free_spec ho' hf) hr' hy ?_
    rw [hd]
    exact wpAnyE_lex hQ hsel ho hE qs _ _ hB' hk

/-! ### Steps that make memory in more than one order: the tree of all orders -/
/-- The steps that are left, in whatever order they may come. -/
def wpEnvR (P : Program) (md : Region.Mode) (ops : Array Oper) (H : World → Prop) (Q : Exit → Act → World → Prop) : Nat → Array Bool → Act → World → Prop
  | 0, _, a, w => ∀ w', Grew w w' → H w' → Q .normal a w'
  | f + 1, listed, a, w => ∀ k ∈ Region.ready md ops listed, ∀ w', Grew w w' → H w' → ∃ o, ops[k]? = some o ∧ wpList P ops (Exit.then (fun a' w'' => H w'' ∧ wpEnvR P md ops H Q f (listed.setIfInBounds k true) a' w'') Q) [o] a w'
def Region.envTree (md : Region.Mode) (ops : Array Oper) (es : List Nat) : Nat → Array Bool → Bool
  | 0, listed => (Region.ready md ops listed).isEmpty
  | f + 1, listed => !(Region.ready md ops listed).isEmpty && (Region.ready md ops listed).all fun k => es.contains k && Region.envTree md ops es f (listed.setIfInBounds k true)
def Region.listAll (listed : Array Bool) : List Nat → Array Bool
  | [] => listed
  | k :: ks => Region.listAll (listed.setIfInBounds k true) ks
def Region.envLexR (md : Region.Mode) (ops : Array Oper) (es : List Nat) : List Nat → Array Bool → Bool
  | [], listed => Region.envTree md ops es es.length listed
  | k :: ks, listed => (Region.ready md ops listed).contains k && Region.free md ops listed k && !es.contains k && Region.envLexR md ops es ks (listed.setIfInBounds k true)

theorem wpAnyE_of_envR {es : List Nat} {Q : Exit → Act → World → Prop} : ∀ (f : Nat) (listed : Array Bool) (a : Act) (w : World),
    Region.envTree md ops es f listed = true → wpEnvR P md ops H Q f listed a w → wpAnyE P md ops H es Q f listed a w
  | 0, listed, a, w, hB, h => ⟨by simpa [Region.envTree] using hB, h⟩
  | f + 1, listed, a, w, hB, h => by
    simp only [Region.envTree, Bool.and_eq_true, Bool.not_eq_true', List.isEmpty_eq_false_iff, List.all_eq_true] at hB
    refine ⟨fun h1 => absurd h1 hB.1, fun i hi => ?_⟩
    obtain ⟨hc, hT⟩ := hB.2 i hi
    rw [if_pos hc]
    intro w' hg hw'
    obtain ⟨o, ho, h1⟩ := h i hi w' hg hw'
    unfold wpOp
    simp only [ho]
    unfold wpList at h1
    split at h1
    · rename_i hw
      rw [if_pos hw]
      rcases h1 with h1 | ⟨h1, a2, w2, h2⟩
      · have h3 : o.wp P a w' (fun a' w'' => H w'' ∧ wpEnvR P md ops H Q f (listed.setIfInBounds i true) a' w'') Q := ?h3
        exact .inl (Oper.wp_mono (fun a' w'' (h2 : H w'' ∧ wpEnvR P md ops H Q f (listed.setIfInBounds i true) a' w'') => ⟨h2.1, wpAnyE_of_envR f _ a' w'' hT h2.2⟩) h3)
        unfold Oper.wp at *
        generalize (execOp a.eval o).run P w' = r at *
        cases r with
        | ok n w'' =>
          cases n <;> simp only [Oper.upon] at h1 ⊢ <;> first
            | exact h1
            | exact Calls.mono h1 (fun e w'' he => by cases e <;> exact he)
        | halt x w'' => cases x <;> simp only [Oper.upon] at h1 ⊢ <;> exact h1
      · exact .inr ⟨h1, a2, w2, h2⟩
    · rename_i hw
      rw [if_neg hw]
      exact ⟨h1.1, wpAnyE_of_envR f _ _ w' hT h1.2⟩

theorem wpAnyE_lexR {es : List Nat} {Q : Exit → Act → World → Prop} {A : Act} (hQ : ∀ c a w d v, Q (.panic c) (Act.put a d v) w → Q (.panic c) a w) (hsel : Region.noSelect ops = true) {w : World} :
    ∀ (qs : List Nat) (listed : Array Bool) (a : Act), wpEnvR P md ops H Q es.length (Region.listAll listed qs) A w → Region.envLexR md ops es qs listed = true → givesAll P ops H A qs a → wpAnyE P md ops H es Q (qs.length + es.length) listed a w
  | [], listed, a, hE, hB, h => by
    simp only [givesAll] at h
    subst h
    rw [List.length_nil, Nat.zero_add]
    exact wpAnyE_of_envR es.length listed a w (by simpa [Region.envLexR] using hB) hE
  | k :: qs, listed, a, hE, hB, h => by
    simp only [Region.envLexR, Bool.and_eq_true] at hB
    obtain ⟨⟨⟨hr, hf⟩, hne⟩, hB'⟩ := hB
    obtain ⟨o, d, ho', hd, hy, hk⟩ := h
    have hr' : k ∈ Region.ready md ops listed := by simpa using hr
    rw [List.length_cons, show qs.length + 1 + es.length = qs.length + es.length + 1 by omega]
    refine wpAnyE_first hQ ho' (Region.noSelect_spec hsel) (by simpa using hne) _ listed a w (Region.free_spec ho' hf) hr' hy ?_
    rw [hd]
    exact wpAnyE_lexR hQ hsel qs _ _ hE hB' hk

/-- From the walk in the text's order, at every world 'Y' of the class by itself. -/
theorem wpQuiet_keeps {C : World → Prop} {A : Act} : ∀ (l : List Oper) (a : Act) (d : Nat), (∀ o ∈ l, o.dst ≠ some d) → wpQuiet P ops C (fun a' => a' = A) l a → A.tmps.getD d undef = a.tmps.getD d undef
  | [], a, d, _, h => by simp only [wpQuiet] at h; rw [h]
  | o :: l, a, d, hd, h => by
    have hput : ∀ v, (a.put o.dst v).tmps.getD d undef = a.tmps.getD d undef := fun v => by
      have := hd o (by simp)
      cases hdst : o.dst with
      | none => rfl
      | some e =>
        have hne : e ≠ d := fun h => this (by rw [hdst, h])
        simp [Act.put, Array.getElem?_setIfInBounds_ne hne]
    unfold wpQuiet at h
    split at h
    · obtain ⟨v, _, h⟩ := h
      rw [wpQuiet_keeps l _ d (fun o' ho' => hd o' (by simp [ho'])) h, hput]
    · rw [wpQuiet_keeps l _ d (fun o' ho' => hd o' (by simp [ho'])) h, hput]

def envDsts (qs : List Nat) (ops : Array Oper) (n : Nat) : Bool :=
  match qs with
  | [] => true
  | i :: rest => (match ops[i]? with
    | some o => (match o.dst with
      | some d => decide (d < n) && rest.all fun j => (match ops[j]? with | some o' => o'.dst != some d | none => true)
      | none => false)
    | none => false) && envDsts rest ops n

theorem givesAll_of_quiet {A : Act} (hH : ∃ Y, H Y) : ∀ (qs : List Nat) (l : List Oper) (a : Act), qs.map (fun k => ops[k]?) = l.map some → envDsts qs ops a.tmps.size = true →
    (∀ Y, H Y → wpQuiet P ops (fun w' => Grew Y w') (fun a' => a' = A) l a) → givesAll P ops H A qs a
  | [], l, a, hl, _, h => by
    cases l with
    | nil => obtain ⟨Y, hY⟩ := hH; exact h Y hY
    | cons o l => simp at hl
  | i :: qs, l, a, hl, hd, h => by
    cases l with
    | nil => simp at hl
    | cons o l =>
      simp only [List.map_cons, List.cons.injEq] at hl
      unfold envDsts at hd
      simp only [hl.1] at hd
      cases hdst : o.dst with
      | none => simp [hdst] at hd
      | some d =>
        simp only [hdst, Bool.and_eq_true, decide_eq_true_eq] at hd
        have hno : ∀ o' ∈ l, o'.dst ≠ some d := fun o' ho' => by
          have h1 := List.all_eq_true.1 hd.1.2
          have h2 : some o' ∈ l.map some := List.mem_map.2 ⟨o', ho', rfl⟩
          rw [← hl.2] at h2
          obtain ⟨j, hj, hj2⟩ := List.mem_map.1 h2
          have h3 := h1 j hj
          simp only [hj2] at h3
          simpa using h3
        have hval : ∀ v, (a.put (some d) v).tmps.getD d undef = v := fun v => by simp [Act.put, hd.1.1]
        have key : ∀ Y, H Y → (Region.wanted o (yielded ops a.tmps) = true → (∀ w, Grew Y w → o.quietAt P a (fun w' => Grew Y w') w (A.tmps.getD d undef))) ∧
            (Region.wanted o (yielded ops a.tmps) = false → A.tmps.getD d undef = undef) ∧ wpQuiet P ops (fun w' => Grew Y w') (fun a' => a' = A) l (a.put (some d) (A.tmps.getD d undef)) := by
          intro Y hY
          have h0 := h Y hY
          unfold wpQuiet at h0
          rw [hdst] at h0
          split at h0
          · rename_i hw
            obtain ⟨v, h1, h2⟩ := h0
            rw [hdst] at h2
            have e := wpQuiet_keeps l _ d hno h2
            rw [hval] at e
            rw [e]
            exact ⟨fun _ => h1, fun h => (by rw [hw] at h; cases h), h2⟩
          · rename_i hw
            have e := wpQuiet_keeps l _ d hno h0
            rw [hval] at e
            rw [e]
            exact ⟨fun h => absurd h hw, fun _ => rfl, h0⟩
        refine ⟨o, d, hl.1, hdst, ?_, givesAll_of_quiet hH qs l _ hl.2 (by simpa [Act.put] using hd.2) fun Y hY => (key Y hY).2.2⟩
        by_cases hw : Region.wanted o (yielded ops a.tmps) = true
        · exact .inl ⟨hw, fun w hw' => (key w hw').1 hw w (Grew.refl _)⟩
        · obtain ⟨Y, hY⟩ := hH
          exact .inr ⟨by simpa using hw, (key Y hY).2.1 (by simpa using hw)⟩

def pick1 : List Oper → Nat → List Oper → List Oper
  | [], _, r => r
  | o :: _, 0, r => o :: r
  | _ :: l, k + 1, r => pick1 l k r
theorem pick1_nil (k : Nat) (r : List Oper) : pick1 [] k r = r := by cases k <;> rfl
theorem pick1_zero (o : Oper) (l r : List Oper) : pick1 (o :: l) 0 r = o :: r := rfl
theorem pick1_succ (o : Oper) (l r : List Oper) (k : Nat) : pick1 (o :: l) (k + 1) r = pick1 l k r := rfl
theorem pick1_eq : ∀ (l : List Oper) (k : Nat) (r : List Oper) (h : k < l.length), pick1 l k r = l[k] :: r
  | o :: l, 0, r, _ => rfl
  | o :: l, k + 1, r, h => by rw [pick1_succ, pick1_eq l k r (by simpa using h)]; simp
def pickOps (l : List Oper) : List Nat → List Oper
  | [] => []
  | k :: ks => pick1 l k (pickOps l ks)
theorem pickOps_nil (l : List Oper) : pickOps l [] = [] := rfl
theorem pickOps_cons (l : List Oper) (k : Nat) (ks : List Nat) : pickOps l (k :: ks) = pick1 l k (pickOps l ks) := rfl
def envOk (ks : List Nat) (n : Nat) : Bool := ks.all fun k => decide (k < n)
theorem map_pick (l : List Oper) (ks : List Nat) (h : envOk ks l.length = true) : ks.map (fun k => l.toArray[k]?) = (pickOps l ks).map some := by
  induction ks with
  | nil => rfl
  | cons k ks ih =>
    unfold envOk at h
    simp only [List.all_cons, Bool.and_eq_true, decide_eq_true_eq] at h
    have hk : l[k]? = some l[k] := List.getElem?_eq_getElem h.1
    rw [pickOps_cons, pick1_eq l k _ h.1, List.map_cons, List.map_cons, ← ih h.2, List.getElem?_toArray, hk]

/-- A region that draws its order: the steps 'qs' leave what was as it was and give one value in every world of the class 'H'; the steps 'es' go in one order among themselves, each in whatever world of the class the others have left. -/
theorem wp_region_env {id : Nat} {Q : Exit → Act → World → Prop} {a : Act} {w : World} {l : List Oper} (qs es : List Nat) (H : World → Prop) (hm : P.follows .mixedOrders = true)
    (hB : (Region.noSelect l.toArray && Region.envLex .any l.toArray es qs (Array.replicate l.length false) && envOk qs l.length && envOk es l.length && decide (qs.length + es.length = l.length)) = true)
    (hD : envDsts qs l.toArray a.tmps.size = true)
    (hQ : ∀ c a w d v, Q (.panic c) (Act.put a d v) w → Q (.panic c) a w) (hH : ∀ w w', H w → Grew w w' → H w') (hw : H w) (A : Act)
    (hq : ∀ Y, H Y → wpQuiet P l.toArray (fun w' => Grew Y w') (fun a' => a' = A) (pickOps l qs) a)
    (he : wpEnv P l.toArray H Q (pickOps l es) A w) : (Code.region id l.toArray true).wp P Q a w := by
  simp only [Bool.and_eq_true, decide_eq_true_eq] at hB
  obtain ⟨⟨⟨⟨hsel, hlex⟩, hok1⟩, hok2⟩, hlen⟩ := hB
  refine wp_region_any hm (wpAny_of_E (H := H) hH (es := es) _ _ _ _ (hH _ _ hw ⟨_, drew_is_grow w⟩) ?_)
  have hd : Grew w { w with drawn := w.drawn + 1 } := ⟨_, drew_is_grow w⟩
  have h1 := wpAnyE_lex (md := .any) (ops := l.toArray) hQ hsel (map_pick l es hok2) he qs (Array.replicate l.length false) a hlex
    (givesAll_of_quiet ⟨w, hw⟩ qs (pickOps l qs) a (map_pick l qs hok1) hD hq)
  rw [hlen] at h1
  have h2 := wpAnyE_mono _ _ _ _ _ hd h1
  simpa using h2

theorem wp_region_env_g {id : Nat} {Q : Exit → Act → World → Prop} {a : Act} {X : World} {δ : Junk} {l : List Oper} (qs es : List Nat) (hm : P.follows .mixedOrders = true)
    (hB : (Region.noSelect l.toArray && Region.envLex .any l.toArray es qs (Array.replicate l.length false) && envOk qs l.length && envOk es l.length && decide (qs.length + es.length = l.length)) = true)
    (hD : envDsts qs l.toArray a.tmps.size = true)
    (hQ : ∀ c a w d v, Q (.panic c) (Act.put a d v) w → Q (.panic c) a w) (V : Act)
    (hq : ∀ A, Hid (A = V) → ∀ δ', wpQuiet P l.toArray (fun w' => ∃ n, w' = (X.grow δ').grow n) (fun a' => a' = A) (pickOps l qs) a)
    (he : wpEnv P l.toArray (fun w' => ∃ n, w' = X.grow n) Q (pickOps l es) V (X.grow δ)) : (Code.region id l.toArray true).wp P Q a (X.grow δ) :=
  wp_region_env qs es (fun w' => ∃ n, w' = X.grow n) hm hB hD hQ (fun w w' ⟨n, h⟩ ⟨m, h'⟩ => ⟨⟨n.objs ++ m.objs, m.drawn⟩, by rw [h', h, grow_grow]⟩) ⟨_, rfl⟩ V (fun Y ⟨n, h⟩ => h ▸ hq V (rfl : V = V) n) he

theorem wp_region_env_p {id : Nat} {Q : Exit → Act → World → Prop} {a : Act} {X : World} {l : List Oper} (qs es : List Nat) (hm : P.follows .mixedOrders = true)
    (hB : (Region.noSelect l.toArray && Region.envLex .any l.toArray es qs (Array.replicate l.length false) && envOk qs l.length && envOk es l.length && decide (qs.length + es.length = l.length)) = true)
    (hD : envDsts qs l.toArray a.tmps.size = true)
    (hQ : ∀ c a w d v, Q (.panic c) (Act.put a d v) w → Q (.panic c) a w) (V : Act)
    (hq : ∀ A, Hid (A = V) → ∀ δ', wpQuiet P l.toArray (fun w' => ∃ n, w' = (X.grow δ').grow n) (fun a' => a' = A) (pickOps l qs) a)
    (he : wpEnv P l.toArray (fun w' => ∃ n, w' = X.grow n) Q (pickOps l es) V X) : (Code.region id l.toArray true).wp P Q a X := by
  have h := wp_region_env_g (id := id) (X := X) (δ := ⟨#[], X.drawn⟩) qs es hm hB hD hQ V hq (by rw [grow_self]; exact he)
  rwa [grow_self] at h

/-! ### A step that writes into a block of the call's own, beside calls: the world is of one of two classes -/
def TwoW (X Z : World) (w' : World) : Prop := ∃ n : Junk, w' = X.grow n ∨ w' = Z.grow n
theorem TwoW.grow' {X Z w w' : World} (h : TwoW X Z w) (hg : Grew w w') : TwoW X Z w' := by
  obtain ⟨m, rfl⟩ := hg
  obtain ⟨n, h | h⟩ := h <;> subst h
  · exact ⟨⟨n.objs ++ m.objs, m.drawn⟩, .inl (grow_grow _ _ _)⟩
  · exact ⟨⟨n.objs ++ m.objs, m.drawn⟩, .inr (grow_grow _ _ _)⟩
theorem twoW_left (X Z : World) (n : Junk) : TwoW X Z (X.grow n) := ⟨n, .inl rfl⟩
theorem twoW_right (X Z : World) (n : Junk) : TwoW X Z (Z.grow n) := ⟨n, .inr rfl⟩
theorem twoW_self (X Z : World) : TwoW X Z Z := ⟨_, .inr (grow_self Z).symm⟩
theorem wp_region_store_g {id : Nat} {Q : Exit → Act → World → Prop} {a : Act} {X Z : World} {δ : Junk} {l : List Oper} (qs es : List Nat) (hm : P.follows .mixedOrders = true)
    (hB : (Region.noSelect l.toArray && Region.envLex .any l.toArray es qs (Array.replicate l.length false) && envOk qs l.length && envOk es l.length && decide (qs.length + es.length = l.length)) = true)
    (hD : envDsts qs l.toArray a.tmps.size = true)
    (hQ : ∀ c a w d v, Q (.panic c) (Act.put a d v) w → Q (.panic c) a w) (V : Act)
    (hq : ∀ A, Hid (A = V) → ∀ δ', wpQuiet P l.toArray (fun w' => ∃ n, w' = (X.grow δ').grow n) (fun a' => a' = A) (pickOps l qs) a)
    (he : wpEnv P l.toArray (TwoW X Z) Q (pickOps l es) V (X.grow δ))
    (hq2 : ∀ A, Hid (A = V) → ∀ δ', wpQuiet P l.toArray (fun w' => ∃ n, w' = (Z.grow δ').grow n) (fun a' => a' = A) (pickOps l qs) a) : (Code.region id l.toArray true).wp P Q a (X.grow δ) :=
  wp_region_env qs es (TwoW X Z) hm hB hD hQ (fun w w' h hg => h.grow' hg) ⟨_, .inl rfl⟩ V (fun Y ⟨n, h⟩ => by
    rcases h with rfl | rfl
    · exact hq V (rfl : V = V) n
    · exact hq2 V (rfl : V = V) n) he
theorem wp_region_store_p {id : Nat} {Q : Exit → Act → World → Prop} {a : Act} {X Z : World} {l : List Oper} (qs es : List Nat) (hm : P.follows .mixedOrders = true)
    (hB : (Region.noSelect l.toArray && Region.envLex .any l.toArray es qs (Array.replicate l.length false) && envOk qs l.length && envOk es l.length && decide (qs.length + es.length = l.length)) = true)
    (hD : envDsts qs l.toArray a.tmps.size = true)
    (hQ : ∀ c a w d v, Q (.panic c) (Act.put a d v) w → Q (.panic c) a w) (V : Act)
    (hq : ∀ A, Hid (A = V) → ∀ δ', wpQuiet P l.toArray (fun w' => ∃ n, w' = (X.grow δ').grow n) (fun a' => a' = A) (pickOps l qs) a)
    (he : wpEnv P l.toArray (TwoW X Z) Q (pickOps l es) V X)
    (hq2 : ∀ A, Hid (A = V) → ∀ δ', wpQuiet P l.toArray (fun w' => ∃ n, w' = (Z.grow δ').grow n) (fun a' => a' = A) (pickOps l qs) a) : (Code.region id l.toArray true).wp P Q a X := by
  have h := wp_region_store_g (id := id) (X := X) (Z := Z) (δ := ⟨#[], X.drawn⟩) qs es hm hB hD hQ V hq (by rw [grow_self]; exact he) hq2
  rwa [grow_self] at h

/-- As 'wp_region_env', where the steps 'es' may go in more than one order. -/
theorem wp_region_tree {id : Nat} {Q : Exit → Act → World → Prop} {a : Act} {w : World} {l : List Oper} (qs es : List Nat) (H : World → Prop) (hm : P.follows .mixedOrders = true)
    (hB : (Region.noSelect l.toArray && Region.envLexR .any l.toArray es qs (Array.replicate l.length false) && envOk qs l.length && envOk es l.length && decide (qs.length + es.length = l.length)) = true)
    (hD : envDsts qs l.toArray a.tmps.size = true)
    (hQ : ∀ c a w d v, Q (.panic c) (Act.put a d v) w → Q (.panic c) a w) (hH : ∀ w w', H w → Grew w w' → H w') (hw : H w) (A : Act)
    (hq : ∀ Y, H Y → wpQuiet P l.toArray (fun w' => Grew Y w') (fun a' => a' = A) (pickOps l qs) a)
    (he : wpEnvR P .any l.toArray H Q es.length (Region.listAll (Array.replicate l.length false) qs) A w) : (Code.region id l.toArray true).wp P Q a w := by
  simp only [Bool.and_eq_true, decide_eq_true_eq] at hB
  obtain ⟨⟨⟨⟨hsel, hlex⟩, hok1⟩, hok2⟩, hlen⟩ := hB
  refine wp_region_any hm (wpAny_of_E (H := H) hH (es := es) _ _ _ _ (hH _ _ hw ⟨_, drew_is_grow w⟩) ?_)
  have hd : Grew w { w with drawn := w.drawn + 1 } := ⟨_, drew_is_grow w⟩
  have h1 := wpAnyE_lexR (md := .any) (ops := l.toArray) (es := es) hQ hsel (w := w) qs (Array.replicate l.length false) a he hlex
    (givesAll_of_quiet ⟨w, hw⟩ qs (pickOps l qs) a (map_pick l qs hok1) hD hq)
  rw [hlen] at h1
  have h2 := wpAnyE_mono _ _ _ _ _ hd h1
  simpa using h2
theorem wp_region_tree_g {id : Nat} {Q : Exit → Act → World → Prop} {a : Act} {X : World} {δ : Junk} {l : List Oper} (qs es : List Nat) (hm : P.follows .mixedOrders = true)
    (hB : (Region.noSelect l.toArray && Region.envLexR .any l.toArray es qs (Array.replicate l.length false) && envOk qs l.length && envOk es l.length && decide (qs.length + es.length = l.length)) = true)
    (hD : envDsts qs l.toArray a.tmps.size = true)
    (hQ : ∀ c a w d v, Q (.panic c) (Act.put a d v) w → Q (.panic c) a w) (V : Act)
    (hq : ∀ A, Hid (A = V) → ∀ δ', wpQuiet P l.toArray (fun w' => ∃ n, w' = (X.grow δ').grow n) (fun a' => a' = A) (pickOps l qs) a)
    (he : wpEnvR P .any l.toArray (fun w' => ∃ n, w' = X.grow n) Q es.length (Region.listAll (Array.replicate l.length false) qs) V (X.grow δ)) : (Code.region id l.toArray true).wp P Q a (X.grow δ) :=
  wp_region_tree qs es (fun w' => ∃ n, w' = X.grow n) hm hB hD hQ (fun w w' ⟨n, h⟩ ⟨m, h'⟩ => ⟨⟨n.objs ++ m.objs, m.drawn⟩, by rw [h', h, grow_grow]⟩) ⟨_, rfl⟩ V (fun Y ⟨n, h⟩ => h ▸ hq V (rfl : V = V) n) he
theorem wp_region_tree_p {id : Nat} {Q : Exit → Act → World → Prop} {a : Act} {X : World} {l : List Oper} (qs es : List Nat) (hm : P.follows .mixedOrders = true)
    (hB : (Region.noSelect l.toArray && Region.envLexR .any l.toArray es qs (Array.replicate l.length false) && envOk qs l.length && envOk es l.length && decide (qs.length + es.length = l.length)) = true)
    (hD : envDsts qs l.toArray a.tmps.size = true)
    (hQ : ∀ c a w d v, Q (.panic c) (Act.put a d v) w → Q (.panic c) a w) (V : Act)
    (hq : ∀ A, Hid (A = V) → ∀ δ', wpQuiet P l.toArray (fun w' => ∃ n, w' = (X.grow δ').grow n) (fun a' => a' = A) (pickOps l qs) a)
    (he : wpEnvR P .any l.toArray (fun w' => ∃ n, w' = X.grow n) Q es.length (Region.listAll (Array.replicate l.length false) qs) V X) : (Code.region id l.toArray true).wp P Q a X := by
  have h := wp_region_tree_g (id := id) (X := X) (δ := ⟨#[], X.drawn⟩) qs es hm hB hD hQ V hq (by rw [grow_self]; exact he)
  rwa [grow_self] at h
section
variable {md : Region.Mode} {X : World} {Q : Exit → Act → World → Prop} {a : Act} {w : World} {l : List Oper} {f : Nat} {listed : Array Bool}
def wpEnvS (P : Program) (md : Region.Mode) (l : List Oper) (X : World) (Q : Exit → Act → World → Prop) (f : Nat) (listed : Array Bool) (k : Nat) (a : Act) (w : World) : Prop :=
  ∀ δ, wpList P l.toArray (Exit.then (fun a' w'' => (∃ n, w'' = X.grow n) ∧ wpEnvR P md l.toArray (fun w' => ∃ n, w' = X.grow n) Q f (listed.setIfInBounds k true) a' w'') Q) (pickOps l [k]) a (w.grow δ)
theorem wpEnvS_intro {k : Nat} (h : ∀ δ, wpList P l.toArray (Exit.then (fun a' w'' => (∃ n, w'' = X.grow n) ∧ wpEnvR P md l.toArray (fun w' => ∃ n, w' = X.grow n) Q f (listed.setIfInBounds k true) a' w'') Q) (pickOps l [k]) a (w.grow δ)) : wpEnvS P md l X Q f listed k a w := h
theorem wpEnvR_of_S (rs : List Nat) (hr : Region.ready md l.toArray listed = rs) (hk : envOk rs l.length = true) (h : ∀ k ∈ rs, wpEnvS P md l X Q f listed k a w) :
    wpEnvR P md l.toArray (fun w' => ∃ n, w' = X.grow n) Q (f + 1) listed a w := by
  intro k hkr w' hg _
  rw [hr] at hkr
  have hlt : k < l.length := by
    unfold envOk at hk
    simpa using List.all_eq_true.1 hk k hkr
  obtain ⟨δ, rfl⟩ := hg
  refine ⟨l[k], by simp [hlt], ?_⟩
  have := h k hkr δ
  rwa [pickOps_cons, pick1_eq l k _ hlt, pickOps_nil] at this
theorem wpEnvR_one (k : Nat) (hr : Region.ready md l.toArray listed = [k]) (hk : envOk [k] l.length = true) (h : wpEnvS P md l X Q f listed k a w) :
    wpEnvR P md l.toArray (fun w' => ∃ n, w' = X.grow n) Q (f + 1) listed a w := wpEnvR_of_S [k] hr hk (by intro i hi; simp only [List.mem_singleton] at hi; subst hi; exact h)
theorem wpEnvR_two (k m : Nat) (hr : Region.ready md l.toArray listed = [k, m]) (hk : envOk [k, m] l.length = true) (h : wpEnvS P md l X Q f listed k a w) (h2 : wpEnvS P md l X Q f listed m a w) :
    wpEnvR P md l.toArray (fun w' => ∃ n, w' = X.grow n) Q (f + 1) listed a w := wpEnvR_of_S [k, m] hr hk (by
  intro i hi; simp only [List.mem_cons, List.not_mem_nil, or_false] at hi
  rcases hi with rfl | rfl
  · exact h
  · exact h2)
theorem wpEnvR_three (k m n : Nat) (hr : Region.ready md l.toArray listed = [k, m, n]) (hk : envOk [k, m, n] l.length = true) (h : wpEnvS P md l X Q f listed k a w) (h2 : wpEnvS P md l X Q f listed m a w) (h3 : wpEnvS P md l X Q f listed n a w) :
    wpEnvR P md l.toArray (fun w' => ∃ n, w' = X.grow n) Q (f + 1) listed a w := wpEnvR_of_S [k, m, n] hr hk (by
  intro i hi; simp only [List.mem_cons, List.not_mem_nil, or_false] at hi
  rcases hi with rfl | rfl | rfl
  · exact h
  · exact h2
  · exact h3)
theorem wpEnvR_end (h : ∀ δ, Q .normal a (w.grow δ)) : wpEnvR P md l.toArray (fun w' => ∃ n, w' = X.grow n) Q 0 listed a w := fun w' ⟨δ, h'⟩ _ => h' ▸ h δ
end

theorem wpEnv_step {o : Oper} {rest : List Oper} {Q : Exit → Act → World → Prop} {a : Act} {w : World} (h : ∀ δ, wpList P ops (Exit.then (fun a' w'' => H w'' ∧ wpEnv P ops H Q rest a' w'') Q) [o] a (w.grow δ)) : wpEnv P ops H Q (o :: rest) a w :=
  fun w' ⟨δ, h'⟩ _ => h' ▸ h δ
theorem wpEnv_end {Q : Exit → Act → World → Prop} {a : Act} {w : World} (h : ∀ δ, Q .normal a (w.grow δ)) : wpEnv P ops H Q [] a w := fun w' ⟨δ, h'⟩ _ => h' ▸ h δ

/-- The call in such a region's quiet part. -/
theorem Calls.pure_of_g {f : FuncId} {args : Array Value} {X : World} {δ n : Junk} {v : Value}
    (h : Calls P f args (X.grow ⟨δ.objs ++ n.objs, n.drawn⟩) fun e w' => e = .returned v ∧ Grew (X.grow ⟨δ.objs ++ n.objs, n.drawn⟩) w') :
    Calls P f args (X.grow ⟨δ.objs ++ n.objs, n.drawn⟩) fun e w'' => e = .returned v ∧ ∃ m : Junk, w'' = X.grow ⟨δ.objs ++ m.objs, m.drawn⟩ :=
  h.mono fun _ _ ⟨he, hm⟩ => ⟨he, by obtain ⟨m, rfl⟩ := hm; exact ⟨⟨n.objs ++ m.objs, m.drawn⟩, by simp [grow_grow, Array.append_assoc]⟩⟩
end
section
variable {P : Program} {ops : Array Oper} {C : World → Prop}
/-- A list of steps that all leave what was as it was. -/
theorem wpList_of_quiet {Q : Exit → Act → World → Prop} : ∀ (l : List Oper) (a : Act) (w : World), C w → wpQuiet P ops C (fun a' => ∀ w', C w' → Q .normal a' w') l a → wpList P ops Q l a w
  | [], a, w, hw, h => h w hw
  | o :: l, a, w, hw, h => by
    unfold wpQuiet at h
    unfold wpList
    split at h
    · rename_i hwant
      rw [if_pos hwant]
      obtain ⟨v, h1, h2⟩ := h
      refine .inl ?_
      have h3 := h1 w hw
      unfold Oper.quietAt at h3
      unfold Oper.wp
      generalize (execOp a.eval o).run P w = r at *
      cases r with
      | ok n w' =>
        cases n <;> simp only [Oper.quietUpon] at h3 <;> simp only [Oper.upon]
        case value u => obtain ⟨e1, e2⟩ := h3; rw [e1, e2]; exact wpList_of_quiet l _ _ hw h2
        case skip => obtain ⟨e1, e2⟩ := h3; rw [e1, ← e2]; exact wpList_of_quiet l _ _ hw h2
        case enter f args =>
          obtain ⟨e1, hc⟩ := h3
          rw [e1]
          exact hc.mono fun e w'' ⟨he, hw''⟩ => by subst he; exact wpList_of_quiet l _ _ hw'' h2
      | halt x w' => simp only [Oper.quietUpon] at h3
    · rename_i hwant
      rw [if_neg hwant]
      exact wpList_of_quiet l _ _ hw h
theorem wpList_quiet_g {Q : Exit → Act → World → Prop} {a : Act} {X : World} {δ : Junk} {l : List Oper} (k : Nat) (hk : l.length = k)
    (h : wpQuiet P ops (fun w' => ∃ n, w' = X.grow n) (fun a' => ∀ w', (∃ n, w' = X.grow n) → Q .normal a' w') l a) : wpList P ops Q l a (X.grow δ) := wpList_of_quiet l a _ ⟨_, rfl⟩ h
theorem wpList_quiet_p {Q : Exit → Act → World → Prop} {a : Act} {X : World} {l : List Oper} (k : Nat) (hk : l.length = k)
    (h : wpQuiet P ops (fun w' => ∃ n, w' = X.grow n) (fun a' => ∀ w', (∃ n, w' = X.grow n) → Q .normal a' w') l a) : wpList P ops Q l a X := wpList_of_quiet l a _ ⟨_, (grow_self X).symm⟩ h
end
theorem grows_self (X : World) (δ : Junk) : ∃ n, X.grow δ = X.grow n := ⟨_, rfl⟩
theorem grows_none (X : World) : ∃ n, X = X.grow n := ⟨_, (grow_self X).symm⟩
theorem grows_grow {X Y : World} (h : ∃ n, Y = X.grow n) (δ : Junk) : ∃ n, Y.grow δ = X.grow n := by obtain ⟨n, rfl⟩ := h; exact ⟨_, grow_grow _ _ _⟩
theorem grows_alloc {X Y : World} (h : ∃ n, Y = X.grow n) (o : Obj) : ∃ n, Y.alloc o = X.grow n := by rw [alloc_is_grow]; exact grows_grow h _
theorem grow_alloc_grow (X : World) (a b : Junk) (o : Obj) : ((X.grow a).alloc o).grow b = X.grow ⟨a.objs ++ (#[o] ++ b.objs), b.drawn⟩ := by
  rw [alloc_is_grow, grow_grow, grow_grow]
theorem grows_drew {X Y : World} (h : ∃ n, Y = X.grow n) : ∃ n, Y.drew = X.grow n := by rw [drew_is_grow]; exact grows_grow h _
/-! ### Places: what lies ahead of new memory -/
@[go_sem] theorem lt_places_1_0 (x : Nat) : x < x + 1 := by omega
@[go_sem] theorem lt_places_2_0 (x a1 : Nat) : x < x + 1 + a1 := by omega
@[go_sem] theorem lt_places_2_1 (x a0 : Nat) : x < x + a0 + 1 := by omega
@[go_sem] theorem lt_places_3_0 (x a1 a2 : Nat) : x < x + 1 + a1 + a2 := by omega
@[go_sem] theorem lt_places_3_1 (x a0 a2 : Nat) : x < x + a0 + 1 + a2 := by omega
@[go_sem] theorem lt_places_3_2 (x a0 a1 : Nat) : x < x + a0 + a1 + 1 := by omega
@[go_sem] theorem lt_places_4_0 (x a1 a2 a3 : Nat) : x < x + 1 + a1 + a2 + a3 := by omega
@[go_sem] theorem lt_places_4_1 (x a0 a2 a3 : Nat) : x < x + a0 + 1 + a2 + a3 := by omega
@[go_sem] theorem lt_places_4_2 (x a0 a1 a3 : Nat) : x < x + a0 + a1 + 1 + a3 := by omega
@[go_sem] theorem lt_places_5_0 (x a1 a2 a3 a4 : Nat) : x < x + 1 + a1 + a2 + a3 + a4 := by omega
@[go_sem] theorem lt_places_5_1 (x a0 a2 a3 a4 : Nat) : x < x + a0 + 1 + a2 + a3 + a4 := by omega
@[go_sem] theorem lt_places_5_2 (x a0 a1 a3 a4 : Nat) : x < x + a0 + a1 + 1 + a3 + a4 := by omega
@[go_sem] theorem lt_places_6_0 (x a1 a2 a3 a4 a5 : Nat) : x < x + 1 + a1 + a2 + a3 + a4 + a5 := by omega
@[go_sem] theorem lt_places_6_1 (x a0 a2 a3 a4 a5 : Nat) : x < x + a0 + 1 + a2 + a3 + a4 + a5 := by omega
@[go_sem] theorem lt_places_6_2 (x a0 a1 a3 a4 a5 : Nat) : x < x + a0 + a1 + 1 + a3 + a4 + a5 := by omega
@[go_sem] theorem lt_places_7_0 (x a1 a2 a3 a4 a5 a6 : Nat) : x < x + 1 + a1 + a2 + a3 + a4 + a5 + a6 := by omega
@[go_sem] theorem lt_places_7_1 (x a0 a2 a3 a4 a5 a6 : Nat) : x < x + a0 + 1 + a2 + a3 + a4 + a5 + a6 := by omega
@[go_sem] theorem lt_places_7_2 (x a0 a1 a3 a4 a5 a6 : Nat) : x < x + a0 + a1 + 1 + a3 + a4 + a5 + a6 := by omega
@[go_sem] theorem lt_places_8_0 (x a1 a2 a3 a4 a5 a6 a7 : Nat) : x < x + 1 + a1 + a2 + a3 + a4 + a5 + a6 + a7 := by omega
@[go_sem] theorem lt_places_8_1 (x a0 a2 a3 a4 a5 a6 a7 : Nat) : x < x + a0 + 1 + a2 + a3 + a4 + a5 + a6 + a7 := by omega
@[go_sem] theorem lt_places_8_2 (x a0 a1 a3 a4 a5 a6 a7 : Nat) : x < x + a0 + a1 + 1 + a3 + a4 + a5 + a6 + a7 := by omega
@[go_sem] theorem lt_places_9_0 (x a1 a2 a3 a4 a5 a6 a7 a8 : Nat) : x < x + 1 + a1 + a2 + a3 + a4 + a5 + a6 + a7 + a8 := by omega
@[go_sem] theorem lt_places_9_1 (x a0 a2 a3 a4 a5 a6 a7 a8 : Nat) : x < x + a0 + 1 + a2 + a3 + a4 + a5 + a6 + a7 + a8 := by omega
@[go_sem] theorem lt_places_9_2 (x a0 a1 a3 a4 a5 a6 a7 a8 : Nat) : x < x + a0 + a1 + 1 + a3 + a4 + a5 + a6 + a7 + a8 := by omega
@[go_sem] theorem lt_places_10_0 (x a1 a2 a3 a4 a5 a6 a7 a8 a9 : Nat) : x < x + 1 + a1 + a2 + a3 + a4 + a5 + a6 + a7 + a8 + a9 := by omega
@[go_sem] theorem lt_places_10_1 (x a0 a2 a3 a4 a5 a6 a7 a8 a9 : Nat) : x < x + a0 + 1 + a2 + a3 + a4 + a5 + a6 + a7 + a8 + a9 := by omega
@[go_sem] theorem lt_places_10_2 (x a0 a1 a3 a4 a5 a6 a7 a8 a9 : Nat) : x < x + a0 + a1 + 1 + a3 + a4 + a5 + a6 + a7 + a8 + a9 := by omega
@[go_sem] theorem lt_places_11_0 (x a1 a2 a3 a4 a5 a6 a7 a8 a9 a10 : Nat) : x < x + 1 + a1 + a2 + a3 + a4 + a5 + a6 + a7 + a8 + a9 + a10 := by omega
@[go_sem] theorem lt_places_11_1 (x a0 a2 a3 a4 a5 a6 a7 a8 a9 a10 : Nat) : x < x + a0 + 1 + a2 + a3 + a4 + a5 + a6 + a7 + a8 + a9 + a10 := by omega
@[go_sem] theorem lt_places_11_2 (x a0 a1 a3 a4 a5 a6 a7 a8 a9 a10 : Nat) : x < x + a0 + a1 + 1 + a3 + a4 + a5 + a6 + a7 + a8 + a9 + a10 := by omega
@[go_sem] theorem lt_places_12_0 (x a1 a2 a3 a4 a5 a6 a7 a8 a9 a10 a11 : Nat) : x < x + 1 + a1 + a2 + a3 + a4 + a5 + a6 + a7 + a8 + a9 + a10 + a11 := by omega
@[go_sem] theorem lt_places_12_1 (x a0 a2 a3 a4 a5 a6 a7 a8 a9 a10 a11 : Nat) : x < x + a0 + 1 + a2 + a3 + a4 + a5 + a6 + a7 + a8 + a9 + a10 + a11 := by omega
@[go_sem] theorem lt_places_12_2 (x a0 a1 a3 a4 a5 a6 a7 a8 a9 a10 a11 : Nat) : x < x + a0 + a1 + 1 + a3 + a4 + a5 + a6 + a7 + a8 + a9 + a10 + a11 := by omega
@[go_sem] theorem lt_places_13_0 (x a1 a2 a3 a4 a5 a6 a7 a8 a9 a10 a11 a12 : Nat) : x < x + 1 + a1 + a2 + a3 + a4 + a5 + a6 + a7 + a8 + a9 + a10 + a11 + a12 := by omega
@[go_sem] theorem lt_places_13_1 (x a0 a2 a3 a4 a5 a6 a7 a8 a9 a10 a11 a12 : Nat) : x < x + a0 + 1 + a2 + a3 + a4 + a5 + a6 + a7 + a8 + a9 + a10 + a11 + a12 := by omega
@[go_sem] theorem lt_places_13_2 (x a0 a1 a3 a4 a5 a6 a7 a8 a9 a10 a11 a12 : Nat) : x < x + a0 + a1 + 1 + a3 + a4 + a5 + a6 + a7 + a8 + a9 + a10 + a11 + a12 := by omega
@[go_sem] theorem lt_places_14_0 (x a1 a2 a3 a4 a5 a6 a7 a8 a9 a10 a11 a12 a13 : Nat) : x < x + 1 + a1 + a2 + a3 + a4 + a5 + a6 + a7 + a8 + a9 + a10 + a11 + a12 + a13 := by omega
@[go_sem] theorem lt_places_14_1 (x a0 a2 a3 a4 a5 a6 a7 a8 a9 a10 a11 a12 a13 : Nat) : x < x + a0 + 1 + a2 + a3 + a4 + a5 + a6 + a7 + a8 + a9 + a10 + a11 + a12 + a13 := by omega
@[go_sem] theorem lt_places_14_2 (x a0 a1 a3 a4 a5 a6 a7 a8 a9 a10 a11 a12 a13 : Nat) : x < x + a0 + a1 + 1 + a3 + a4 + a5 + a6 + a7 + a8 + a9 + a10 + a11 + a12 + a13 := by omega
@[go_sem] theorem lt_places_15_0 (x a1 a2 a3 a4 a5 a6 a7 a8 a9 a10 a11 a12 a13 a14 : Nat) : x < x + 1 + a1 + a2 + a3 + a4 + a5 + a6 + a7 + a8 + a9 + a10 + a11 + a12 + a13 + a14 := by omega
@[go_sem] theorem lt_places_15_1 (x a0 a2 a3 a4 a5 a6 a7 a8 a9 a10 a11 a12 a13 a14 : Nat) : x < x + a0 + 1 + a2 + a3 + a4 + a5 + a6 + a7 + a8 + a9 + a10 + a11 + a12 + a13 + a14 := by omega
@[go_sem] theorem lt_places_15_2 (x a0 a1 a3 a4 a5 a6 a7 a8 a9 a10 a11 a12 a13 a14 : Nat) : x < x + a0 + a1 + 1 + a3 + a4 + a5 + a6 + a7 + a8 + a9 + a10 + a11 + a12 + a13 + a14 := by omega
@[go_sem] theorem lt_places_16_0 (x a1 a2 a3 a4 a5 a6 a7 a8 a9 a10 a11 a12 a13 a14 a15 : Nat) : x < x + 1 + a1 + a2 + a3 + a4 + a5 + a6 + a7 + a8 + a9 + a10 + a11 + a12 + a13 + a14 + a15 := by omega
@[go_sem] theorem lt_places_16_1 (x a0 a2 a3 a4 a5 a6 a7 a8 a9 a10 a11 a12 a13 a14 a15 : Nat) : x < x + a0 + 1 + a2 + a3 + a4 + a5 + a6 + a7 + a8 + a9 + a10 + a11 + a12 + a13 + a14 + a15 := by omega
@[go_sem] theorem lt_places_16_2 (x a0 a1 a3 a4 a5 a6 a7 a8 a9 a10 a11 a12 a13 a14 a15 : Nat) : x < x + a0 + a1 + 1 + a3 + a4 + a5 + a6 + a7 + a8 + a9 + a10 + a11 + a12 + a13 + a14 + a15 := by omega
@[go_sem] theorem lt_places_17_0 (x a1 a2 a3 a4 a5 a6 a7 a8 a9 a10 a11 a12 a13 a14 a15 a16 : Nat) : x < x + 1 + a1 + a2 + a3 + a4 + a5 + a6 + a7 + a8 + a9 + a10 + a11 + a12 + a13 + a14 + a15 + a16 := by omega
@[go_sem] theorem lt_places_18_0 (x a1 a2 a3 a4 a5 a6 a7 a8 a9 a10 a11 a12 a13 a14 a15 a16 a17 : Nat) : x < x + 1 + a1 + a2 + a3 + a4 + a5 + a6 + a7 + a8 + a9 + a10 + a11 + a12 + a13 + a14 + a15 + a16 + a17 := by omega
@[go_sem] theorem lt_places_19_0 (x a1 a2 a3 a4 a5 a6 a7 a8 a9 a10 a11 a12 a13 a14 a15 a16 a17 a18 : Nat) : x < x + 1 + a1 + a2 + a3 + a4 + a5 + a6 + a7 + a8 + a9 + a10 + a11 + a12 + a13 + a14 + a15 + a16 + a17 + a18 := by omega
@[go_sem] theorem lt_places_20_0 (x a1 a2 a3 a4 a5 a6 a7 a8 a9 a10 a11 a12 a13 a14 a15 a16 a17 a18 a19 : Nat) : x < x + 1 + a1 + a2 + a3 + a4 + a5 + a6 + a7 + a8 + a9 + a10 + a11 + a12 + a13 + a14 + a15 + a16 + a17 + a18 + a19 := by omega
@[go_sem] theorem lt_places_21_0 (x a1 a2 a3 a4 a5 a6 a7 a8 a9 a10 a11 a12 a13 a14 a15 a16 a17 a18 a19 a20 : Nat) : x < x + 1 + a1 + a2 + a3 + a4 + a5 + a6 + a7 + a8 + a9 + a10 + a11 + a12 + a13 + a14 + a15 + a16 + a17 + a18 + a19 + a20 := by omega
@[go_sem] theorem lt_places_22_0 (x a1 a2 a3 a4 a5 a6 a7 a8 a9 a10 a11 a12 a13 a14 a15 a16 a17 a18 a19 a20 a21 : Nat) : x < x + 1 + a1 + a2 + a3 + a4 + a5 + a6 + a7 + a8 + a9 + a10 + a11 + a12 + a13 + a14 + a15 + a16 + a17 + a18 + a19 + a20 + a21 := by omega
@[go_sem] theorem lt_places_23_0 (x a1 a2 a3 a4 a5 a6 a7 a8 a9 a10 a11 a12 a13 a14 a15 a16 a17 a18 a19 a20 a21 a22 : Nat) : x < x + 1 + a1 + a2 + a3 + a4 + a5 + a6 + a7 + a8 + a9 + a10 + a11 + a12 + a13 + a14 + a15 + a16 + a17 + a18 + a19 + a20 + a21 + a22 := by omega
@[go_sem] theorem lt_places_24_0 (x a1 a2 a3 a4 a5 a6 a7 a8 a9 a10 a11 a12 a13 a14 a15 a16 a17 a18 a19 a20 a21 a22 a23 : Nat) : x < x + 1 + a1 + a2 + a3 + a4 + a5 + a6 + a7 + a8 + a9 + a10 + a11 + a12 + a13 + a14 + a15 + a16 + a17 + a18 + a19 + a20 + a21 + a22 + a23 := by omega
@[go_sem] theorem lt_places_25_0 (x a1 a2 a3 a4 a5 a6 a7 a8 a9 a10 a11 a12 a13 a14 a15 a16 a17 a18 a19 a20 a21 a22 a23 a24 : Nat) : x < x + 1 + a1 + a2 + a3 + a4 + a5 + a6 + a7 + a8 + a9 + a10 + a11 + a12 + a13 + a14 + a15 + a16 + a17 + a18 + a19 + a20 + a21 + a22 + a23 + a24 := by omega
@[go_sem] theorem lt_places_26_0 (x a1 a2 a3 a4 a5 a6 a7 a8 a9 a10 a11 a12 a13 a14 a15 a16 a17 a18 a19 a20 a21 a22 a23 a24 a25 : Nat) : x < x + 1 + a1 + a2 + a3 + a4 + a5 + a6 + a7 + a8 + a9 + a10 + a11 + a12 + a13 + a14 + a15 + a16 + a17 + a18 + a19 + a20 + a21 + a22 + a23 + a24 + a25 := by omega
@[go_sem] theorem lt_places_27_0 (x a1 a2 a3 a4 a5 a6 a7 a8 a9 a10 a11 a12 a13 a14 a15 a16 a17 a18 a19 a20 a21 a22 a23 a24 a25 a26 : Nat) : x < x + 1 + a1 + a2 + a3 + a4 + a5 + a6 + a7 + a8 + a9 + a10 + a11 + a12 + a13 + a14 + a15 + a16 + a17 + a18 + a19 + a20 + a21 + a22 + a23 + a24 + a25 + a26 := by omega
@[go_sem] theorem lt_places_28_0 (x a1 a2 a3 a4 a5 a6 a7 a8 a9 a10 a11 a12 a13 a14 a15 a16 a17 a18 a19 a20 a21 a22 a23 a24 a25 a26 a27 : Nat) : x < x + 1 + a1 + a2 + a3 + a4 + a5 + a6 + a7 + a8 + a9 + a10 + a11 + a12 + a13 + a14 + a15 + a16 + a17 + a18 + a19 + a20 + a21 + a22 + a23 + a24 + a25 + a26 + a27 := by omega
@[go_sem] theorem lt_places_29_0 (x a1 a2 a3 a4 a5 a6 a7 a8 a9 a10 a11 a12 a13 a14 a15 a16 a17 a18 a19 a20 a21 a22 a23 a24 a25 a26 a27 a28 : Nat) : x < x + 1 + a1 + a2 + a3 + a4 + a5 + a6 + a7 + a8 + a9 + a10 + a11 + a12 + a13 + a14 + a15 + a16 + a17 + a18 + a19 + a20 + a21 + a22 + a23 + a24 + a25 + a26 + a27 + a28 := by omega
@[go_sem] theorem lt_places_30_0 (x a1 a2 a3 a4 a5 a6 a7 a8 a9 a10 a11 a12 a13 a14 a15 a16 a17 a18 a19 a20 a21 a22 a23 a24 a25 a26 a27 a28 a29 : Nat) : x < x + 1 + a1 + a2 + a3 + a4 + a5 + a6 + a7 + a8 + a9 + a10 + a11 + a12 + a13 + a14 + a15 + a16 + a17 + a18 + a19 + a20 + a21 + a22 + a23 + a24 + a25 + a26 + a27 + a28 + a29 := by omega
@[go_sem] theorem lt_places_31_0 (x a1 a2 a3 a4 a5 a6 a7 a8 a9 a10 a11 a12 a13 a14 a15 a16 a17 a18 a19 a20 a21 a22 a23 a24 a25 a26 a27 a28 a29 a30 : Nat) : x < x + 1 + a1 + a2 + a3 + a4 + a5 + a6 + a7 + a8 + a9 + a10 + a11 + a12 + a13 + a14 + a15 + a16 + a17 + a18 + a19 + a20 + a21 + a22 + a23 + a24 + a25 + a26 + a27 + a28 + a29 + a30 := by omega
@[go_sem] theorem lt_places_32_0 (x a1 a2 a3 a4 a5 a6 a7 a8 a9 a10 a11 a12 a13 a14 a15 a16 a17 a18 a19 a20 a21 a22 a23 a24 a25 a26 a27 a28 a29 a30 a31 : Nat) : x < x + 1 + a1 + a2 + a3 + a4 + a5 + a6 + a7 + a8 + a9 + a10 + a11 + a12 + a13 + a14 + a15 + a16 + a17 + a18 + a19 + a20 + a21 + a22 + a23 + a24 + a25 + a26 + a27 + a28 + a29 + a30 + a31 := by omega
@[go_sem] theorem lt_places_33_0 (x a1 a2 a3 a4 a5 a6 a7 a8 a9 a10 a11 a12 a13 a14 a15 a16 a17 a18 a19 a20 a21 a22 a23 a24 a25 a26 a27 a28 a29 a30 a31 a32 : Nat) : x < x + 1 + a1 + a2 + a3 + a4 + a5 + a6 + a7 + a8 + a9 + a10 + a11 + a12 + a13 + a14 + a15 + a16 + a17 + a18 + a19 + a20 + a21 + a22 + a23 + a24 + a25 + a26 + a27 + a28 + a29 + a30 + a31 + a32 := by omega
@[go_sem] theorem lt_places_34_0 (x a1 a2 a3 a4 a5 a6 a7 a8 a9 a10 a11 a12 a13 a14 a15 a16 a17 a18 a19 a20 a21 a22 a23 a24 a25 a26 a27 a28 a29 a30 a31 a32 a33 : Nat) : x < x + 1 + a1 + a2 + a3 + a4 + a5 + a6 + a7 + a8 + a9 + a10 + a11 + a12 + a13 + a14 + a15 + a16 + a17 + a18 + a19 + a20 + a21 + a22 + a23 + a24 + a25 + a26 + a27 + a28 + a29 + a30 + a31 + a32 + a33 := by omega
@[go_sem] theorem lt_places_35_0 (x a1 a2 a3 a4 a5 a6 a7 a8 a9 a10 a11 a12 a13 a14 a15 a16 a17 a18 a19 a20 a21 a22 a23 a24 a25 a26 a27 a28 a29 a30 a31 a32 a33 a34 : Nat) : x < x + 1 + a1 + a2 + a3 + a4 + a5 + a6 + a7 + a8 + a9 + a10 + a11 + a12 + a13 + a14 + a15 + a16 + a17 + a18 + a19 + a20 + a21 + a22 + a23 + a24 + a25 + a26 + a27 + a28 + a29 + a30 + a31 + a32 + a33 + a34 := by omega
@[go_sem] theorem lt_places_36_0 (x a1 a2 a3 a4 a5 a6 a7 a8 a9 a10 a11 a12 a13 a14 a15 a16 a17 a18 a19 a20 a21 a22 a23 a24 a25 a26 a27 a28 a29 a30 a31 a32 a33 a34 a35 : Nat) : x < x + 1 + a1 + a2 + a3 + a4 + a5 + a6 + a7 + a8 + a9 + a10 + a11 + a12 + a13 + a14 + a15 + a16 + a17 + a18 + a19 + a20 + a21 + a22 + a23 + a24 + a25 + a26 + a27 + a28 + a29 + a30 + a31 + a32 + a33 + a34 + a35 := by omega
end Go
