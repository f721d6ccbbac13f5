/- Regions that draw their order, in which some steps hand back what depends on the world they find (new slices): quiet steps go first as soon as they can; the others go in whatever order, each in whatever world has come meanwhile. No program in sight. -/
import Derived.Test.YtmnnmndnpkanlaaEnv
namespace Go
set_option linter.unusedVariables false
set_option linter.unusedSimpArgs false
open Go.RowKit
section
variable {P : Program} {ops : Array Oper} {md : Region.Mode}
/-- Whatever order comes, in whatever world has come meanwhile. -/
def wpFlow (P : Program) (md : Region.Mode) (ops : Array Oper) (Q : Exit → Act → World → Prop) : Nat → Array Bool → Act → World → Prop
  | 0, listed, a, w => Region.ready md ops listed = [] ∧ ∀ w', Grew w w' → Q .normal a w'
  | f + 1, listed, a, w =>
    (Region.ready md ops listed = [] → ∀ w', Grew w w' → Q .normal a w') ∧
    ∀ i ∈ Region.ready md ops listed, ∀ w', Grew w w' → wpOp P ops Q i (fun a' w'' => Grew w' w'' ∧ wpFlow P md ops Q f (listed.setIfInBounds i true) a' w'') a w'
theorem wpFlow_mono {Q : Exit → Act → World → Prop} : ∀ (f : Nat) (listed : Array Bool) (a : Act) (w w' : World), Grew w w' → wpFlow P md ops Q f listed a w → wpFlow P md ops Q f listed a w'
  | 0, _, _, _, _, hg, h => ⟨h.1, fun w'' hg' => h.2 w'' (hg.trans hg')⟩
  | f + 1, listed, a, w, w', hg, h => ⟨fun h0 w'' hg' => h.1 h0 w'' (hg.trans hg'), fun i hi w'' hg' => h.2 i hi w'' (hg.trans hg')⟩
theorem wpAny_of_flow {Q : Exit → Act → World → Prop} : ∀ (f : Nat) (listed : Array Bool) (a : Act) (w : World), wpFlow P md ops Q f listed a w → wpAny P md ops Q f listed a w
  | 0, _, _, w, h => ⟨h.1, h.2 w (Grew.refl _)⟩
  | f + 1, listed, a, w, h => ⟨fun h0 => h.1 h0 w (Grew.refl _), fun i hi => wpOp_mono (fun a' w' h' => wpAny_of_flow f _ a' w' h'.2) (h.2 i hi w (Grew.refl _))⟩
theorem GivesIn.sub {H H' : World → Prop} {o : Oper} {v : Value} {a : Act} (hs : ∀ w, H' w → H w) (h : GivesIn P ops H o v a) : GivesIn P ops H' o v a := by
  rcases h with ⟨h1, h2⟩ | h
  · exact .inl ⟨h1, fun w hw => h2 w (hs w hw)⟩
  · exact .inr h
/-- A quiet step goes first. -/
theorem wpFlow_first {i : Nat} {oi : Oper} {v : Value} {Q : Exit → Act → World → Prop} (hQ : ∀ c a w d v, Q (.panic c) (Act.put a d v) w → Q (.panic c) a w)
    (hi : ops[i]? = some oi) (hsel : ∀ (j : Nat) (o : Oper) cs b, ops[j]? = some o → o.op ≠ .select cs b) :
    ∀ (f : Nat) (listed : Array Bool) (a : Act) (w : World),
      (∀ j oj, ops[j]? = some oj → j ≠ i → listed.getD j true = false → (∀ e ∈ oj.after, Region.binds md e = true → e.on ≠ i) → oi.apart ops oj = true) →
      i ∈ Region.ready md ops listed → GivesIn P ops (fun w' => Grew w w') oi v a →
      wpFlow P md ops Q f (listed.setIfInBounds i true) (a.put oi.dst v) w → wpFlow P md ops Q (f + 1) listed a w := by
  have self : ∀ (f : Nat) (listed : Array Bool) (a : Act) (w : World), GivesIn P ops (fun w' => Grew w w') oi v a → wpFlow P md ops Q f (listed.setIfInBounds i true) (a.put oi.dst v) w →
      ∀ w', Grew w w' → wpOp P ops Q i (fun a' w'' => Grew w' w'' ∧ wpFlow P md ops Q f (listed.setIfInBounds i true) a' w'') a w' := fun f listed a w hy Hh w' hg =>
    wpOp_of_gives hi hy hg fun w'' hg' => ⟨hg', wpFlow_mono f _ _ _ _ (hg.trans hg') Hh⟩
  intro f
  induction f with
  | zero =>
    intro listed a w _ hr hy Hh
    refine ⟨fun h => (by rw [h] at hr; cases hr), fun j hj => ?_⟩
    by_cases hji : j = i
    · subst hji; exact self 0 listed a w hy Hh
    · have := ready_mono hj hji
      rw [Hh.1] at this
      cases this
  | succ f ih =>
    intro listed a w hfree hr hy Hh
    refine ⟨fun h => (by rw [h] at hr; cases hr), fun j hj => ?_⟩
    by_cases hji : j = i
    · subst hji; exact self (f + 1) listed a w hy Hh
    · have h1 := Hh.2 j (ready_mono hj hji)
      obtain ⟨hjun, oj, hoj, hall⟩ := mem_ready.1 hj
      have hun := (mem_ready.1 hr).1
      have hnot : ∀ e ∈ oj.after, Region.binds md e = true → e.on ≠ i := fun e he hb heq => by
        have h1 := hall e he hb
        rw [heq, getD_both hun] at h1
        cases h1
      have hfree' : ∀ k ok, ops[k]? = some ok → k ≠ i → (listed.setIfInBounds j true).getD k true = false →
          (∀ e ∈ ok.after, Region.binds md e = true → e.on ≠ i) → oi.apart ops ok = true := fun k ok hk hki hun hno => by
        refine hfree k ok hk hki ?_ hno
        by_cases hjk : j = k
        · subst hjk; exact hjun
        · rw [getD_set_ne true hjk] at hun; exact hun
      have hap := hfree j oj hoj hji hjun hnot
      intro w' hg
      have h2 := wpOp_putG hoj hap (fun cs b => hsel i oi cs b hi) (fun cs b => hsel j oj cs b hoj) hQ hy (h1 w' hg)
      refine wpOp_mono (fun a' w'' h3 => ⟨h3.2.1, ih (listed.setIfInBounds j true) a' w'' hfree' (ready_mono hr (Ne.symm hji)) (h3.1.sub fun x hx => hg.trans (h3.2.1.trans hx)) ?_⟩) h2
      rw [Array.setIfInBounds_comm _ _ hji]
      exact h3.2.2
def Region.flowLex (md : Region.Mode) (ops : Array Oper) : List Nat → Array Bool → Bool
  | [], _ => true
  | k :: ks, listed => (Region.ready md ops listed).contains k && Region.free md ops listed k && Region.flowLex md ops ks (listed.setIfInBounds k true)
theorem wpFlow_lex {Q : Exit → Act → World → Prop} {A : Act} (hQ : ∀ c a w d v, Q (.panic c) (Act.put a d v) w → Q (.panic c) a w) (hsel : Region.noSelect ops = true) {w : World} (f : Nat) :
    ∀ (qs : List Nat) (listed : Array Bool) (a : Act), wpFlow P md ops Q f (Region.listAll listed qs) A w → Region.flowLex md ops qs listed = true → givesAll P ops (fun w' => Grew w w') A qs a → wpFlow P md ops Q (qs.length + f) listed a w
  | [], listed, a, hE, _, h => by
    simp only [givesAll] at h
    subst h
    rw [List.length_nil, Nat.zero_add]
    exact hE
  | k :: qs, listed, a, hE, hB, h => by
    simp only [Region.flowLex, Bool.and_eq_true] at hB
    obtain ⟨⟨hr, hf⟩, hB'⟩ := hB
    obtain ⟨o, d, ho', hd, hy, hk⟩ := h
    have hr' : k ∈ Region.ready md ops listed := by simpa using hr
    rw [List.length_cons, show qs.length + 1 + f = qs.length + f + 1 by omega]
    refine wpFlow_first hQ ho' (Region.noSelect_spec hsel) _ listed a w (Region.free_spec ho' hf) hr' hy ?_
    rw [hd]
    exact wpFlow_lex hQ hsel f qs _ _ hE hB' hk
end
section
variable {P : Program} {l : List Oper} {Q : Exit → Act → World → Prop}
/-- The call in the quiet part of a region's beginning. -/
theorem Calls.pure_of_g3 {f : FuncId} {args : Array Value} {X : World} {a b n : Junk} {v : Value}
    (h : Calls P f args (X.grow ⟨a.objs ++ (b.objs ++ n.objs), n.drawn⟩) fun e w' => e = .returned v ∧ Grew (X.grow ⟨a.objs ++ (b.objs ++ n.objs), n.drawn⟩) w') :
    Calls P f args (X.grow ⟨a.objs ++ (b.objs ++ n.objs), n.drawn⟩) fun e w'' => e = .returned v ∧ ∃ m : Junk, w'' = X.grow ⟨a.objs ++ (b.objs ++ m.objs), m.drawn⟩ :=
  h.mono fun _ _ ⟨he, hm⟩ => ⟨he, by obtain ⟨m, rfl⟩ := hm; exact ⟨⟨n.objs ++ m.objs, m.drawn⟩, by simp [grow_grow, Array.append_assoc]⟩⟩
/-- Quiet steps, in the text's order. -/
theorem wpFlow_quiets (qs : List Nat) {n : Nat} {listed : Array Bool} {a : Act} {w : World} (hn : decide (qs.length ≤ n) = true)
    (hB : (Region.noSelect l.toArray && Region.flowLex .any l.toArray qs listed && envOk qs l.length) = true) (hD : envDsts qs l.toArray a.tmps.size = true)
    (hQ : ∀ c a w d v, Q (.panic c) (Act.put a d v) w → Q (.panic c) a w) (V : Act)
    (hq : ∀ A, Hid (A = V) → ∀ δ', wpQuiet P l.toArray (fun w' => ∃ n, w' = (w.grow δ').grow n) (fun a' => a' = A) (pickOps l qs) a)
    (h : wpFlow P .any l.toArray Q (n - qs.length) (Region.listAll listed qs) V w) : wpFlow P .any l.toArray Q n listed a w := by
  simp only [Bool.and_eq_true] at hB
  obtain ⟨⟨hsel, hlex⟩, hok⟩ := hB
  obtain ⟨f, rfl⟩ : ∃ f, n = qs.length + f := ⟨n - qs.length, by have := of_decide_eq_true hn; omega⟩
  rw [Nat.add_sub_cancel_left] at h
  exact wpFlow_lex hQ hsel f qs listed a h hlex (givesAll_of_quiet (H := fun w' => Grew w w') ⟨w, Grew.refl _⟩ qs (pickOps l qs) a (map_pick l qs hok) hD (fun Y ⟨n, hY⟩ => by subst hY; exact hq V (rfl : V = V) n))
/-- A step of the others. -/
def wpFlowS (P : Program) (l : List Oper) (Q : Exit → Act → World → Prop) (f : Nat) (listed : Array Bool) (k : Nat) (a : Act) (w : World) : Prop :=
  ∀ δ, wpList P l.toArray (Exit.then (fun a' w'' => Grew (w.grow δ) w'' ∧ wpFlow P .any l.toArray Q f (listed.setIfInBounds k true) a' w'') Q) (pickOps l [k]) a (w.grow δ)
theorem wpFlow_of_S {f : Nat} {listed : Array Bool} {a : Act} {w : World} (rs : List Nat) (hr : Region.ready .any l.toArray listed = rs) (hne : rs.isEmpty = false) (hk : envOk rs l.length = true) (h : ∀ k ∈ rs, wpFlowS P l Q f listed k a w) :
    wpFlow P .any l.toArray Q (f + 1) listed a w := by
  refine ⟨fun h0 => (by rw [hr] at h0; rw [h0] at hne; cases hne), fun k hkr w' hg => ?_⟩
  rw [hr] at hkr
  have hlt : k < l.length := by
    unfold envOk at hk
    simpa using List.all_eq_true.1 hk k hkr
  obtain ⟨δ, rfl⟩ := hg
  have h1 := h k hkr δ
  rw [pickOps_cons, pick1_eq l k _ hlt, pickOps_nil] at h1
  unfold wpOp
  simp only [List.getElem?_toArray, List.getElem?_eq_getElem hlt]
  unfold wpList at h1
  split at h1
  · rename_i hw
    rw [if_pos hw]
    rcases h1 with h1 | ⟨h1, a2, w2, h2⟩
    · exact .inl (by
        unfold Oper.wp at *
        generalize (execOp a.eval l[k]).run P (w.grow δ) = r at *
        cases r with
        | ok n w'' =>
          cases n <;> simp only [Oper.upon] at h1 ⊢ <;> first
            | exact h1
            | exact Calls.mono h1 (fun e w'' he => by cases e <;> exact he)
        | halt x w'' => cases x <;> simp only [Oper.upon] at h1 ⊢ <;> exact h1)
    · exact .inr ⟨h1, a2, w2, h2⟩
  · rename_i hw
    rw [if_neg hw]
    exact h1
theorem wpFlow_of_S' {x : Nat} (hx : decide (0 < x) = true) {listed : Array Bool} {a : Act} {w : World} (rs : List Nat) (hr : Region.ready .any l.toArray listed = rs) (hne : rs.isEmpty = false) (hk : envOk rs l.length = true) (h : ∀ k ∈ rs, wpFlowS P l Q (x - 1) listed k a w) :
    wpFlow P .any l.toArray Q x listed a w := by
  obtain ⟨f, rfl⟩ : ∃ f, x = f + 1 := ⟨x - 1, by have := of_decide_eq_true hx; omega⟩
  exact wpFlow_of_S rs hr hne hk h
theorem wpFlowS_intro {f : Nat} {listed : Array Bool} {k : Nat} {a : Act} {w : World} (h : ∀ δ, wpList P l.toArray (Exit.then (fun a' w'' => Grew (w.grow δ) w'' ∧ wpFlow P .any l.toArray Q f (listed.setIfInBounds k true) a' w'') Q) (pickOps l [k]) a (w.grow δ)) : wpFlowS P l Q f listed k a w := h
theorem wpFlow_one {x : Nat} {listed : Array Bool} {a : Act} {w : World} (k : Nat) (hx : decide (0 < x) = true) (hr : Region.ready .any l.toArray listed = [k]) (hk : envOk [k] l.length = true) (h : wpFlowS P l Q (x - 1) listed k a w) :
    wpFlow P .any l.toArray Q x listed a w := wpFlow_of_S' hx [k] hr rfl hk (by intro i hi; simp only [List.mem_singleton] at hi; subst hi; exact h)
theorem wpFlow_two {x : Nat} {listed : Array Bool} {a : Act} {w : World} (k m : Nat) (hx : decide (0 < x) = true) (hr : Region.ready .any l.toArray listed = [k, m]) (hk : envOk [k, m] l.length = true) (h : wpFlowS P l Q (x - 1) listed k a w) (h2 : wpFlowS P l Q (x - 1) listed m a w) :
    wpFlow P .any l.toArray Q x listed a w := wpFlow_of_S' hx [k, m] hr rfl hk (by
  intro i hi; simp only [List.mem_cons, List.not_mem_nil, or_false] at hi
  rcases hi with rfl | rfl
  · exact h
  · exact h2)
theorem wpFlow_three {x : Nat} {listed : Array Bool} {a : Act} {w : World} (k m n : Nat) (hx : decide (0 < x) = true) (hr : Region.ready .any l.toArray listed = [k, m, n]) (hk : envOk [k, m, n] l.length = true) (h : wpFlowS P l Q (x - 1) listed k a w) (h2 : wpFlowS P l Q (x - 1) listed m a w) (h3 : wpFlowS P l Q (x - 1) listed n a w) :
    wpFlow P .any l.toArray Q x listed a w := wpFlow_of_S' hx [k, m, n] hr rfl hk (by
  intro i hi; simp only [List.mem_cons, List.not_mem_nil, or_false] at hi
  rcases hi with rfl | rfl | rfl
  · exact h
  · exact h2
  · exact h3)
theorem wpFlow_end {x : Nat} {listed : Array Bool} {a : Act} {w : World} (hx : decide (x = 0) = true) (hr : (Region.ready .any l.toArray listed).isEmpty = true) (h : ∀ δ, Q .normal a (w.grow δ)) : wpFlow P .any l.toArray Q x listed a w := by
  obtain rfl := of_decide_eq_true hx
  exact ⟨by simpa using hr, fun w' ⟨δ, h'⟩ => h' ▸ h δ⟩
theorem wp_region_flow {id : Nat} {a : Act} {w : World} (hm : P.follows .mixedOrders = true) (h : ∀ δ, wpFlow P .any l.toArray Q l.length (Array.replicate l.length false) a (w.grow δ)) : (Code.region id l.toArray true).wp P Q a w := by
  refine wp_region_any hm (wpAny_of_flow _ _ _ _ ?_)
  have h1 := h ⟨#[], w.drawn + 1⟩
  rw [← drew_is_grow] at h1
  simpa using h1
end
end Go
