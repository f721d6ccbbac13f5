/- 'stepladderlaw05.TreePaths' answers true for every slice of ids, int, id, without panicking, and what it was handed reads as before. Conditions: none. -/
import Derived.Test.YtleaemeihljlnaaRows
import Derived.Test.YtleaemeihljlnaaM5
/- append, of whatever is shown, nothing too; a step whose guard holds. No program in sight. -/
namespace Go
set_option linter.unusedVariables false
set_option linter.unusedSimpArgs false
open Go.RowKit
theorem wpList_unguard {P : Program} {ops : Array Oper} {Q : Exit → Act → World → Prop} {d : Option Tmp} {op : Op} {t : TypeId} {p : String} {af : Array Edge} {j : Nat} {b : Bool} {rest : List Oper} {a : Act} {w : World}
    (hw : yielded ops a.tmps j = some b) (h : wpList P ops Q (⟨d, op, t, p, af, none⟩ :: rest) a w) : wpList P ops Q (⟨d, op, t, p, af, some (j, b)⟩ :: rest) a w := by
  unfold wpList at h ⊢
  have h1 : Region.wanted ⟨d, op, t, p, af, some (j, b)⟩ (yielded ops a.tmps) = true := by simp [Region.wanted, hw]
  have h2 : Region.wanted ⟨d, op, t, p, af, none⟩ (yielded ops a.tmps) = true := rfl
  rw [if_pos h1]
  rw [if_pos h2] at h
  exact h
theorem _root_.Go.Calls.pure_of_g5 {P : Program} {f : FuncId} {args : Array Value} {X : World} {a b c e n : Junk} {v : Value}
    (h : Calls P f args (X.grow ⟨a.objs ++ (b.objs ++ (c.objs ++ (e.objs ++ n.objs))), n.drawn⟩) fun e' w' => e' = .returned v ∧ Grew (X.grow ⟨a.objs ++ (b.objs ++ (c.objs ++ (e.objs ++ n.objs))), n.drawn⟩) w') :
    Calls P f args (X.grow ⟨a.objs ++ (b.objs ++ (c.objs ++ (e.objs ++ n.objs))), n.drawn⟩) fun e' w'' => e' = .returned v ∧ ∃ m : Junk, w'' = X.grow ⟨a.objs ++ (b.objs ++ (c.objs ++ (e.objs ++ m.objs))), m.drawn⟩ :=
  h.mono fun _ _ ⟨he, hm⟩ => ⟨he, by obtain ⟨m, rfl⟩ := hm; exact ⟨⟨n.objs ++ m.objs, m.drawn⟩, by simp [grow_grow, Array.append_assoc]⟩⟩
section
variable {α : Type} {k : Nat} {f : α → List Value}
/-- append, of whatever is shown, nothing too. -/
theorem wpList_appendE2 {P : Program} {ops : Array Oper} {rest : List Oper} {o : Oper} {a : Act} {Q : Exit → Act → World → Prop} (hf : ∀ x, (f x).length = k) (hk : 0 < k) (hgd : o.guard = none) (s x : Operand) (t : TypeId)
    (ho : o.op = .call { callee := .builtin .append, args := #[s, x], argTypes := #[t, t] }) (e : TypeId) (i : TypeInfo) (z : Value) (bytes : Nat) (ht : P.underlying t = some (.slice e)) (hi : P.info? e = some i) (hz : i.zero = some z)
    (hsize : i.size = k) (hby : i.bytes = bytes) (hzs : z.cells.size = k) (h1 : ∀ x, ∀ u ∈ f x, u.oneCell' = true) (A X : World) (base : Nat) (v y : Value) (hs : a.eval s = v) (hy : a.eval x = y) (xs news : List α) (hg : Grew A X) (hA : A.heap.size ≤ base) (hX : base ≤ X.heap.size) (hown : OwnE k f X base e v xs) (hsh : ShowsE k f X y news)
    (h63 : xs.length + news.length ≤ maxLen) (hbytes : (xs.length + news.length) * bytes ≤ 140737488355328)
    (h : ∀ v' w', OwnE k f w' base e v' (xs ++ news) → Grew A w' → wpList P ops Q rest (a.put o.dst v') w') : wpList P ops Q (o :: rest) a X := by
  rcases hsh with ⟨b, of, c, rfl, hc, hb, hr⟩ | ⟨p, c, rfl, rfl⟩
  · rcases Nat.eq_zero_or_pos news.length with h0 | hp
    · obtain rfl : news = [] := List.length_eq_zero_iff.1 h0
      have hblock := hown.block
      obtain ⟨v', w', hrun, h2, h3, _⟩ := run_append_own (P := P) X base t o.type e i z k bytes ht hi hz hsize hby hzs hk v xs.length (xs.flatMap f) hown ⟨b, of, none⟩ 0 c [] (by simp) (by simp) (by simp) h63 hbytes hX
      refine Lib.wpList_append_run X hgd s x t t ho v _ hs hy v' w' hrun (h v' w' ?_ (hg.grown h3 fun j hj => Nat.le_trans hA (hblock j hj).1))
      rw [List.append_nil] at h2 ⊢
      exact h2
    · exact wpList_appendE hf hk hgd s x t ho e i z bytes ht hi hz hsize hby hzs h1 A X base v _ hs hy xs news hg hA hX hown (.inl ⟨b, of, c, rfl, hc, hb, hr⟩) h63 hbytes hp fun v' w' a b _ => h v' w' a b
  · have hblock := hown.block
    cases p with
    | some ad =>
      obtain ⟨v', w', hrun, h2, h3, _⟩ := run_append_own (P := P) X base t o.type e i z k bytes ht hi hz hsize hby hzs hk v xs.length (xs.flatMap f) hown ad 0 c [] (by simp) (by simp) (by simp) h63 hbytes hX
      refine Lib.wpList_append_run X hgd s x t t ho v _ hs hy v' w' hrun (h v' w' ?_ (hg.grown h3 fun j hj => Nat.le_trans hA (hblock j hj).1))
      rw [List.append_nil] at h2 ⊢
      exact h2
    | none =>
      have hrun : (Builtin.append_ #[t, t] o.type #[v, .slice none 0 c]).run P X = .ok v X := by
        rcases hown.2 with ⟨rfl, h0⟩ | ⟨g, cap, cur, rfl, hb, hg, hn, hm, hs, hq⟩
        · simp [Builtin.append_, run_underlying ht, sizeOf, typeInfo, zeroValue, hi, hz, Question.forced, run_firstCells_none, Builtin.lenOf]
        · have hcl : ¬ (cap < xs.length) := by omega
          simp [Builtin.append_, run_underlying ht, sizeOf, typeInfo, zeroValue, hi, hz, Question.forced, run_firstCells_none, Builtin.lenOf, hcl, hn, storeCells]
      refine Lib.wpList_append_run X hgd s x t t ho v _ hs hy v X hrun (h v X ?_ hg)
      rw [List.append_nil]
      exact hown
end
end Go
namespace Go.Proofs.Ytleaemeihljlnaa
end Go.Proofs.Ytleaemeihljlnaa
/- The walk of TreeHalves. -/
namespace Go.Proofs.Ytleaemeihljlnaa
set_option linter.unusedVariables false
set_option linter.unusedSimpArgs false
open Go.RowKit
theorem made1 (w : World) (a : Idb) : ShowsI (w.alloc (.cells (iv a.l) 29)) (.slice (some ⟨w.heap.size, 0, none⟩) 1 1) [a] := by
  have h := (OwnE.made Idb.cs_len w w.heap.size 29 [a] (Nat.le_refl _) (by simp [maxLen])).shows Idb.cs_len
  have e1 : ([a].flatMap Idb.cs).toArray = iv a.l := by
    simp only [List.flatMap_cons, List.flatMap_nil, List.append_nil, Idb.cs]
    rfl
  rw [e1] at h
  exact h
theorem made1_g (w : World) (δ : Junk) (a : Idb) : ShowsI ((w.grow δ).alloc (.cells (iv a.l) 29)) (.slice (some ⟨w.heap.size + δ.n, 0, none⟩) 1 1) [a] := by
  have := made1 (w.grow δ) a
  rwa [size_grow] at this
theorem sides10 : sidesOf 1 0 = [] := by
  show (side 1 0).reverse = []
  rw [side_one 1 0 (by omega)]; rfl
theorem chk10 (r : Idb) : chk r 1 0 r [] = true := by
  unfold chk
  rw [sides10]
  have h2 : chkIn 1 0 = true := by decide
  rw [h2]
  simp [ieq, top]
theorem prefix_calls (l : List Idb) (v : Value) (w : World) (hl : l.length ≤ 1000000) (hs : ShowsI w v l) : ∀ W, Grew w W → Calls Try.prog 13 #[v] W fun e w' => e = .returned (.agg (iv (root l).l)) ∧ Grew W w' :=
  fun W g => root_w _ l v W (Nat.le_refl _) hl (hs.grew g)
set_option maxRecDepth 100000 in
set_option maxHeartbeats 6400000 in
theorem treeHalves_walk (q : Option Addr) (c : Nat) (l : List Idb) (hm : l.length ≤ maxLen) (k : Int) (r : Idb) (n i : Int) (w : World) (hs : ShowsI w (.slice q l.length c) l) :
    Calls Try.prog 5 #[.slice q l.length c, .int .i64 k, .agg (iv r.l), .int .i64 n, .int .i64 i] w fun e w' => e = .returned (.bool true) ∧ Grew w w' := by
  have HS := Lib.hid hs
  clear hs hm
  have hrl := r.len
  by_cases h4 : 32 < l.length
  · have h4' : decide (32 < (l.length : Int)) = true := decide_eq_true (by omega)
    go_enter Try.func5, Try.ntmps5
    go_wp2_with (go_at_call 9; refine (awake_w _).mono ?_; rintro e w' ⟨rfl, δ, rfl⟩)
    go_ret
    exact ⟨rfl, (by repeat (first | with_reducible exact Grew.refl _ | with_reducible apply Grew.alloc | with_reducible apply Grew.grow | with_reducible apply Grew.drew | with_reducible apply Grew.drewN))⟩
  obtain ⟨N, hN⟩ : ∃ N, l.length = N := ⟨_, rfl⟩
  have HN := Lib.hid hN
  rw [hN] at HS h4 ⊢
  clear hN
  have h4' : decide (32 < (N : Int)) = false := decide_eq_false (by omega)
  have hNI : (N : Int) ≤ 32 := by omega
  have hall : n < 1 ∨ (¬ n < 1 ∧ 64 < n) ∨ (¬ n < 1 ∧ ¬ 64 < n ∧ i < 0) ∨ (¬ n < 1 ∧ ¬ 64 < n ∧ ¬ i < 0 ∧ n ≤ i) ∨ (¬ n < 1 ∧ ¬ 64 < n ∧ ¬ i < 0 ∧ ¬ n ≤ i) := by omega
  have hchk : (n < 1 ∨ 64 < n ∨ i < 0 ∨ n ≤ i) → chk r n i r [] = false := fun h => chk_out (by omega) r r []
  have hI : (r.l).length = 32 := hrl
  have hcC : ∀ W, Calls Try.prog 17 #[.agg (iv r.l), .int .i64 n, .int .i64 i, .agg (iv r.l), .slice none 0 0] W fun e w' => e = .returned (.bool (chk r n i r [])) ∧ Grew W w' := fun W => check_w r n i r [] _ W (.inr ⟨_, _, rfl, rfl⟩) (by simp)
  have hc1 : ∀ W, Calls Try.prog 17 #[.agg (iv r.l), .int .i64 1, .int .i64 0, .agg (iv r.l), .slice none 0 0] W fun e w' => e = .returned (.bool true) ∧ Grew W w' := fun W => by
    have := check_w r 1 0 r [] _ W (.inr ⟨none, 0, rfl, rfl⟩) (by simp)
    rwa [chk10] at this
  have C1 := Lib.hid hc1
  have hrr : ieq r.l r.l = true := decide_eq_true rfl
  rcases hall with h | h | h | h | h
  all_goals
    have hodd := hchk
    clear hchk
    first
    | (replace hodd := hodd (by omega); rw [hodd] at hcC; clear hodd)
    | clear hodd
    have CC := Lib.hid hcC
    clear hcC hc1
    try obtain ⟨h1, h⟩ := h
    try obtain ⟨h2, h⟩ := h
    try obtain ⟨h3, h⟩ := h
    go_enter Try.func5, Try.ntmps5
    go_wp2_with (go_at_call 9; refine (awake_w _).mono ?_; rintro e w' ⟨rfl, δ, rfl⟩)
    refine code_abs ?_
    intro Y hY
    have gY : Grew w Y := by rw [hY]; exact (by repeat (first | with_reducible exact Grew.refl _ | with_reducible apply Grew.alloc | with_reducible apply Grew.grow | with_reducible apply Grew.drew | with_reducible apply Grew.drewN))
    have rY : Y.rowAt w.heap.size = iv r.l := by rw [hY]; simp [go_sem]
    have zY : w.heap.size < Y.heap.size := by rw [hY]; simp; omega
    have GY := Lib.hid gY
    clear hY gY
    try (have ho : (decide (n < 1) || decide (64 < n) || decide (i < 0) || decide (n ≤ i)) = false := (by (simp only [Bool.or_eq_false_iff, decide_eq_false_iff_not]; omega)); simp only [ho]; clear ho)
    refine wp_region_flow (by kernel_rfl) ?_
    intro δf
    apply wpFlow_quiets [0,1,2,3,4,5] (by decide +kernel) (by decide +kernel) (by kernel_rfl) (by intro _ _ _ d _ h; cases d <;> exact h) _
    · intro A hA δ'
      simp only [pickOps_cons, pickOps_nil, pick1_zero, pick1_succ]
      repeat (go_big_quiet_step ((fail)))
      exact wpQuiet_nil hA.out.symm
    apply wpFlow_quiets [6] (by decide +kernel) (by decide +kernel) (by kernel_rfl) (by intro _ _ _ d _ h; cases d <;> exact h) _
    · intro A hA δ'
      simp only [pickOps_cons, pickOps_nil, pick1_zero, pick1_succ]
      repeat (go_big_quiet_step ((go_at_call 17; (with_reducible first | exact Calls.pure_of_g3 (CC.out _) | exact Calls.pure_of_g4 (CC.out _) | exact Calls.pure_of_g (CC.out _) | exact Calls.pure_of_g5 (CC.out _)))))
      exact wpQuiet_nil hA.out.symm
    apply wpFlow_quiets [7,8,9,12] (by decide +kernel) (by decide +kernel) (by kernel_rfl) (by intro _ _ _ d _ h; cases d <;> exact h) _
    · intro A hA δ'
      simp only [pickOps_cons, pickOps_nil, pick1_zero, pick1_succ]
      repeat (go_big_quiet_step ((fail)))
      exact wpQuiet_nil hA.out.symm
    refine wpFlow_one 10 (by decide +kernel) (by kernel_rfl) (by kernel_rfl) ?_
    refine wpFlowS_intro ?_
    simp only [pickOps_cons, pickOps_nil, pick1_zero, pick1_succ]
    intro δf
    go_wp2_with (fail)
    refine ⟨(by first | assumption | (simp only [grow_grow, Array.append_assoc]; assumption) | exact Grew.refl _ | (simp only [grow_grow, Array.append_assoc]; exact (by repeat (first | with_reducible exact Grew.refl _ | with_reducible apply Grew.alloc | with_reducible apply Grew.grow | with_reducible apply Grew.drew | with_reducible apply Grew.drewN))) | exact (by repeat (first | with_reducible exact Grew.refl _ | with_reducible apply Grew.alloc | with_reducible apply Grew.grow | with_reducible apply Grew.drew | with_reducible apply Grew.drewN))), ?_⟩
    refine flow_abs ?_
    intro Z hZ
    have gZ : Grew Y Z := by rw [hZ]; exact (by repeat (first | with_reducible exact Grew.refl _ | with_reducible apply Grew.alloc | with_reducible apply Grew.grow | with_reducible apply Grew.drew | with_reducible apply Grew.drewN))
    have rZ : Z.rowAt w.heap.size = iv r.l := by rw [Grew.rowAt gZ _ zY]; exact rY
    have zZ : w.heap.size < Z.heap.size := Nat.lt_of_lt_of_le zY gZ.size
    have sZ : ∀ v, (∃ δ : Junk, Z = (Y.grow δ).alloc (.cells (iv r.l) 29) ∧ v = .slice (some ⟨Y.heap.size + δ.n, 0, none⟩) 1 1) → ShowsI Z v [r] := by
      rintro v ⟨δ, h, rfl⟩
      rw [h]
      exact made1_g Y δ r
    have hR : ∀ v, (∃ δ : Junk, Z = (Y.grow δ).alloc (.cells (iv r.l) 29) ∧ v = .slice (some ⟨Y.heap.size + δ.n, 0, none⟩) 1 1) → ∀ W, Grew Z W → Calls Try.prog 13 #[v] W fun e w' => e = .returned (.agg (iv r.l)) ∧ Grew W w' := fun v hv W g => by
      have := root_w 1 [r] v W (Nat.le_refl _) (by simp) ((sZ v hv).grew g)
      rwa [root_one] at this
    have SY := Lib.hid hR
    have HZ := Lib.hid hZ
    have GZ := Lib.hid (GY.out.trans gZ)
    clear gZ hZ sZ hR rY zY
    apply wpFlow_quiets [11] (by decide +kernel) (by decide +kernel) (by kernel_rfl) (by intro _ _ _ d _ h; cases d <;> exact h) _
    · intro A hA δ'
      simp only [pickOps_cons, pickOps_nil, pick1_zero, pick1_succ]
      repeat (go_big_quiet_step ((go_at_call 13; (with_reducible first | exact Calls.pure_of_g3 (SY.out _ ⟨_, HZ.out, rfl⟩ _ (by repeat (first | with_reducible exact Grew.refl _ | with_reducible apply Grew.alloc | with_reducible apply Grew.grow | with_reducible apply Grew.drew | with_reducible apply Grew.drewN))) | exact Calls.pure_of_g4 (SY.out _ ⟨_, HZ.out, rfl⟩ _ (by repeat (first | with_reducible exact Grew.refl _ | with_reducible apply Grew.alloc | with_reducible apply Grew.grow | with_reducible apply Grew.drew | with_reducible apply Grew.drewN))) | exact Calls.pure_of_g (SY.out _ ⟨_, HZ.out, rfl⟩ _ (by repeat (first | with_reducible exact Grew.refl _ | with_reducible apply Grew.alloc | with_reducible apply Grew.grow | with_reducible apply Grew.drew | with_reducible apply Grew.drewN))) | exact Calls.pure_of_g5 (SY.out _ ⟨_, HZ.out, rfl⟩ _ (by repeat (first | with_reducible exact Grew.refl _ | with_reducible apply Grew.alloc | with_reducible apply Grew.grow | with_reducible apply Grew.drew | with_reducible apply Grew.drewN)))))))
      exact wpQuiet_nil hA.out.symm
    apply wpFlow_quiets [13,14,15,16,17] (by decide +kernel) (by decide +kernel) (by kernel_rfl) (by intro _ _ _ d _ h; cases d <;> exact h) _
    · intro A hA δ'
      simp only [pickOps_cons, pickOps_nil, pick1_zero, pick1_succ]
      repeat (go_big_quiet_step ((fail)))
      exact wpQuiet_nil hA.out.symm
    apply wpFlow_quiets [18] (by decide +kernel) (by decide +kernel) (by kernel_rfl) (by intro _ _ _ d _ h; cases d <;> exact h) _
    · intro A hA δ'
      simp only [pickOps_cons, pickOps_nil, pick1_zero, pick1_succ]
      repeat (go_big_quiet_step ((go_at_call 17; (with_reducible first | exact Calls.pure_of_g3 (C1.out _) | exact Calls.pure_of_g4 (C1.out _) | exact Calls.pure_of_g (C1.out _) | exact Calls.pure_of_g5 (C1.out _)))))
      exact wpQuiet_nil hA.out.symm
    apply wpFlow_quiets [19,20] (by decide +kernel) (by decide +kernel) (by kernel_rfl) (by intro _ _ _ d _ h; cases d <;> exact h) _
    · intro A hA δ'
      simp only [pickOps_cons, pickOps_nil, pick1_zero, pick1_succ]
      repeat (go_big_quiet_step ((fail)))
      exact wpQuiet_nil hA.out.symm
    refine wpFlow_end (by decide +kernel) (by kernel_rfl) ?_
    intro δf
    go_wp2
    have hB0 : (1 : Int) = ((2 ^ 0 : Nat) : Int) := rfl
    clear C1 CC SY HZ hrr rZ zZ
    refine code_abs ?_
    intro V hV
    have gV : Grew w V := by rw [hV]; exact GZ.out.trans (by repeat (first | with_reducible exact Grew.refl _ | with_reducible apply Grew.alloc | with_reducible apply Grew.grow | with_reducible apply Grew.drew | with_reducible apply Grew.drewN))
    have GV := Lib.hid gV
    clear gV hV GZ GY
    go_loopw [13, 14] (fun b j wr => ∃ e : Nat, e ≤ 5 ∧ b = .int .i64 ((2 ^ e : Nat) : Int) ∧ j = .int .i64 e ∧ Grew V wr) (fun b j _ => 5 - (intOf j).toNat)
    case atStart => exact ⟨0, by omega, rfl, rfl, Grew.refl _⟩
    case round =>
      obtain ⟨e, he, rfl, rfl, g⟩ := hrel
      have HG := Lib.hid g
      clear g
      have hp1 : 2 ^ e ≤ 2 ^ 5 := Nat.pow_le_pow_right (by omega) he
      have hp2 : 2 ^ (e + 1) = 2 * 2 ^ e := by rw [Nat.pow_succ]; omega
      have hp3 : e < 5 → 2 ^ e ≤ 2 ^ 4 := fun h => Nat.pow_le_pow_right (by omega) (by omega)
      have hp4 : e = 5 → 2 ^ e = 32 := fun h => by rw [h]
      obtain ⟨B, hB⟩ : ∃ B, 2 ^ e = B := ⟨_, rfl⟩
      rw [hB] at hp1 hp2 hp3 hp4
      have HB := Lib.hid hB
      have HP := Lib.hid hp2
      simp only [hB]
      clear hB hp2
      by_cases hk : (e : Int) < k ∧ e < 5
      · obtain ⟨hk1, hk2⟩ := hk
        have hb1 : (B : Int) < 32 := by have := hp3 hk2; omega
        have hb2 : (2 * (B : Int)) = ((2 ^ (e + 1) : Nat) : Int) := by rw [HP.out]; omega
        have he5 : (e : Int) < 5 := by omega
        have HQ := Lib.hid hb2
        clear hp1 hp3 hp4 hb2 hB0
        go_wp2
        exact ⟨⟨e + 1, by omega, by rw [HQ.out], by go_num, HG.out⟩, by simp only [intOf]; omega⟩
      · have hout : ¬ (e : Int) < k ∨ ((e : Int) < k ∧ ¬ (B : Int) < 32) := by
          by_cases h1 : (e : Int) < k
          · exact .inr ⟨h1, by have := hp4 (by omega); omega⟩
          · exact .inl h1
        clear hk hp3 hp4
        have hbI : (B : Int) ≤ 32 := by omega
        have hb1 : 1 ≤ (B : Int) := by have := Nat.one_le_two_pow (n := e); rw [HB.out] at this; omega
        have cases3 : (N : Int) < B ∨ (¬ (N : Int) < B ∧ 2 * (B : Int) < N) ∨ (¬ (N : Int) < B ∧ ¬ 2 * (B : Int) < N ∧ (N : Int) = B) ∨ (¬ (N : Int) < B ∧ ¬ 2 * (B : Int) < N ∧ ¬ (N : Int) = B) := by omega
        have HG2 := Lib.hid (GV.out.trans HG.out)
        clear hp1 GV HG hB0
        rcases cases3 with c1 | ⟨c1, c2⟩ | ⟨c1, c2, c3⟩ | ⟨c1, c2, c3⟩
        rotate_left 3
        · have hs := HS.out
          have hN := HN.out
          rw [← hN] at hs
          obtain ⟨b, o, rfl, _, hc, hb, hat⟩ := showsI_some hs (by omega)
          rw [hN] at hs hc
          have hh := half_uniq N e (by omega) (by omega) (by rw [HB.out]; omega) (by rw [HB.out]; omega)
          rw [HB.out] at hh
          have hcut := root_cut l (by omega) (by omega)
          rw [hN, ← hh] at hcut
          have p1 : ShowsI w (.slice (some ⟨b, o, none⟩) B c) (l.take B) := by
            have := showsI_part (o := o) hb hat 0 B c (by omega) (by omega)
            simpa using this
          have p2 : ShowsI w (.slice (some ⟨b, o + B * 32, none⟩) (N - B) (c - B)) (l.drop B) := by
            have := showsI_part (o := o) hb hat B (N - B) (c - B) (by omega) (by omega)
            rwa [List.take_of_length_le (by rw [List.length_drop]; omega)] at this
          have K0 := Lib.hid (prefix_calls l _ w (by omega) hs)
          have K1 := Lib.hid (prefix_calls _ _ w (by rw [List.length_take]; omega) p1)
          have K2 := Lib.hid (prefix_calls _ _ w (by rw [List.length_drop]; omega) p2)
          have hx1 := (root (l.take B)).len
          have hx2 := (root (l.drop B)).len
          have hx0 := (root l).len
          obtain ⟨ra, hA⟩ : ∃ A, root (l.take B) = A := ⟨_, rfl⟩
          obtain ⟨rb, hB⟩ : ∃ A, root (l.drop B) = A := ⟨_, rfl⟩
          obtain ⟨rc, hC⟩ : ∃ A, root l = A := ⟨_, rfl⟩
          rw [hA] at K1 hcut hx1
          rw [hB] at K2 hcut hx2
          rw [hC] at K0 hcut hx0
          have hnl := (ra.node rb).len
          have heq : ieq rc.l (ra.node rb).l = true := decide_eq_true (by rw [hcut])
          have k1 : (B : Int) ≤ (c : Int) := by omega
          have k2 : (B : Int) ≤ (N : Int) := by omega
          have k3 : ¬ c = B := by omega
          clear hs hN hc hb hat hh hcut p1 p2 hA hB hC HB HP HN HS
          refine code_abs ?_
          intro Y hY
          have GY := Lib.hid (show Grew w Y by rw [hY]; exact HG2.out)
          clear hY HG2
          rcases hout with hout | ⟨ho1, ho2⟩
          rotate_left
          · exfalso; omega
          · go_wp2
            refine wp_region_flow (by kernel_rfl) ?_
            intro δf
            apply wpFlow_quiets [0] (by decide +kernel) (by decide +kernel) (by kernel_rfl) (by intro _ _ _ d _ h; cases d <;> exact h) _
            · intro A hA δ'
              simp only [pickOps_cons, pickOps_nil, pick1_zero, pick1_succ]
              repeat (go_big_quiet_step ((fail)))
              exact wpQuiet_nil hA.out.symm
            apply wpFlow_quiets [1] (by decide +kernel) (by decide +kernel) (by kernel_rfl) (by intro _ _ _ d _ h; cases d <;> exact h) _
            · intro A hA δ'
              simp only [pickOps_cons, pickOps_nil, pick1_zero, pick1_succ]
              repeat (go_big_quiet_step ((go_at_call 13; (with_reducible first | exact Calls.pure_of_g3 (K0.out _ (GY.out.trans (by repeat (first | with_reducible exact Grew.refl _ | with_reducible apply Grew.alloc | with_reducible apply Grew.grow | with_reducible apply Grew.drew | with_reducible apply Grew.drewN)))) | exact Calls.pure_of_g4 (K0.out _ (GY.out.trans (by repeat (first | with_reducible exact Grew.refl _ | with_reducible apply Grew.alloc | with_reducible apply Grew.grow | with_reducible apply Grew.drew | with_reducible apply Grew.drewN)))) | exact Calls.pure_of_g (K0.out _ (GY.out.trans (by repeat (first | with_reducible exact Grew.refl _ | with_reducible apply Grew.alloc | with_reducible apply Grew.grow | with_reducible apply Grew.drew | with_reducible apply Grew.drewN)))) | exact Calls.pure_of_g5 (K0.out _ (GY.out.trans (by repeat (first | with_reducible exact Grew.refl _ | with_reducible apply Grew.alloc | with_reducible apply Grew.grow | with_reducible apply Grew.drew | with_reducible apply Grew.drewN))))))))
              exact wpQuiet_nil hA.out.symm
            apply wpFlow_quiets [2,3,4] (by decide +kernel) (by decide +kernel) (by kernel_rfl) (by intro _ _ _ d _ h; cases d <;> exact h) _
            · intro A hA δ'
              simp only [pickOps_cons, pickOps_nil, pick1_zero, pick1_succ]
              repeat (go_big_quiet_step ((fail)))
              exact wpQuiet_nil hA.out.symm
            apply wpFlow_quiets [5] (by decide +kernel) (by decide +kernel) (by kernel_rfl) (by intro _ _ _ d _ h; cases d <;> exact h) _
            · intro A hA δ'
              simp only [pickOps_cons, pickOps_nil, pick1_zero, pick1_succ]
              repeat (go_big_quiet_step ((go_at_call 13; (with_reducible first | exact Calls.pure_of_g3 (K1.out _ (GY.out.trans (by repeat (first | with_reducible exact Grew.refl _ | with_reducible apply Grew.alloc | with_reducible apply Grew.grow | with_reducible apply Grew.drew | with_reducible apply Grew.drewN)))) | exact Calls.pure_of_g4 (K1.out _ (GY.out.trans (by repeat (first | with_reducible exact Grew.refl _ | with_reducible apply Grew.alloc | with_reducible apply Grew.grow | with_reducible apply Grew.drew | with_reducible apply Grew.drewN)))) | exact Calls.pure_of_g (K1.out _ (GY.out.trans (by repeat (first | with_reducible exact Grew.refl _ | with_reducible apply Grew.alloc | with_reducible apply Grew.grow | with_reducible apply Grew.drew | with_reducible apply Grew.drewN)))) | exact Calls.pure_of_g5 (K1.out _ (GY.out.trans (by repeat (first | with_reducible exact Grew.refl _ | with_reducible apply Grew.alloc | with_reducible apply Grew.grow | with_reducible apply Grew.drew | with_reducible apply Grew.drewN))))))))
              exact wpQuiet_nil hA.out.symm
            apply wpFlow_quiets [6,7,8] (by decide +kernel) (by decide +kernel) (by kernel_rfl) (by intro _ _ _ d _ h; cases d <;> exact h) _
            · intro A hA δ'
              simp only [pickOps_cons, pickOps_nil, pick1_zero, pick1_succ]
              repeat (go_big_quiet_step ((fail)))
              exact wpQuiet_nil hA.out.symm
            apply wpFlow_quiets [9] (by decide +kernel) (by decide +kernel) (by kernel_rfl) (by intro _ _ _ d _ h; cases d <;> exact h) _
            · intro A hA δ'
              simp only [pickOps_cons, pickOps_nil, pick1_zero, pick1_succ]
              repeat (go_big_quiet_step ((go_at_call 13; (with_reducible first | exact Calls.pure_of_g3 (K2.out _ (GY.out.trans (by repeat (first | with_reducible exact Grew.refl _ | with_reducible apply Grew.alloc | with_reducible apply Grew.grow | with_reducible apply Grew.drew | with_reducible apply Grew.drewN)))) | exact Calls.pure_of_g4 (K2.out _ (GY.out.trans (by repeat (first | with_reducible exact Grew.refl _ | with_reducible apply Grew.alloc | with_reducible apply Grew.grow | with_reducible apply Grew.drew | with_reducible apply Grew.drewN)))) | exact Calls.pure_of_g (K2.out _ (GY.out.trans (by repeat (first | with_reducible exact Grew.refl _ | with_reducible apply Grew.alloc | with_reducible apply Grew.grow | with_reducible apply Grew.drew | with_reducible apply Grew.drewN)))) | exact Calls.pure_of_g5 (K2.out _ (GY.out.trans (by repeat (first | with_reducible exact Grew.refl _ | with_reducible apply Grew.alloc | with_reducible apply Grew.grow | with_reducible apply Grew.drew | with_reducible apply Grew.drewN))))))))
              exact wpQuiet_nil hA.out.symm
            apply wpFlow_quiets [10] (by decide +kernel) (by decide +kernel) (by kernel_rfl) (by intro _ _ _ d _ h; cases d <;> exact h) _
            · intro A hA δ'
              simp only [pickOps_cons, pickOps_nil, pick1_zero, pick1_succ]
              repeat (go_big_quiet_step ((go_at_call 19; (with_reducible first | exact Calls.pure_of_g3 (node_w ra rb _) | exact Calls.pure_of_g4 (node_w ra rb _) | exact Calls.pure_of_g (node_w ra rb _) | exact Calls.pure_of_g5 (node_w ra rb _)))))
              exact wpQuiet_nil hA.out.symm
            apply wpFlow_quiets [11,12] (by decide +kernel) (by decide +kernel) (by kernel_rfl) (by intro _ _ _ d _ h; cases d <;> exact h) _
            · intro A hA δ'
              simp only [pickOps_cons, pickOps_nil, pick1_zero, pick1_succ]
              repeat (go_big_quiet_step ((fail)))
              exact wpQuiet_nil hA.out.symm
            refine wpFlow_end (by decide +kernel) (by kernel_rfl) ?_
            intro δf
            go_wp2
            go_ret
            exact ⟨rfl, GY.out.trans (by repeat (first | with_reducible exact Grew.refl _ | with_reducible apply Grew.alloc | with_reducible apply Grew.grow | with_reducible apply Grew.drew | with_reducible apply Grew.drewN))⟩
        all_goals
          rcases hout with hout | ⟨ho1, ho2⟩
          all_goals
            clear HP
            go_wp2
            go_ret
            exact ⟨rfl, HG2.out⟩
end Go.Proofs.Ytleaemeihljlnaa
/- Paths lead to the root; they are no longer than the tree is high. No program in sight. -/
namespace Go.Proofs.Ytleaemeihljlnaa
set_option linter.unusedVariables false
set_option linter.unusedSimpArgs false
theorem half_pow (n h : Nat) (h2 : 2 ≤ n) (hn : n ≤ 1099511627776) (hp : n ≤ 2 ^ h) : 1 ≤ h ∧ halfN n ≤ 2 ^ (h - 1) := by
  have hs := half_sand n h2 hn
  have e : halfN n = 2 ^ hexp n := rfl
  have hlt : 2 ^ hexp n < 2 ^ h := by omega
  have h3 := (Nat.pow_lt_pow_iff_right (by omega : 1 < 2)).1 hlt
  exact ⟨by omega, by rw [e]; exact Nat.pow_le_pow_right (by omega) (by omega)⟩
theorem side_high : ∀ (f n i h : Nat), n ≤ f → n ≤ 1099511627776 → n ≤ 2 ^ h → (side n i).length ≤ h
  | 0, n, i, h, hf, _, _ => by rw [side_one n i (by omega)]; simp
  | f + 1, n, i, h, hf, hb, hp => by
    rcases Nat.lt_or_ge n 2 with h2 | h2
    · rw [side_one n i (by omega)]; simp
    · have hs := half_sand n h2 hb
      have hps := half_pos n
      obtain ⟨h1, h3⟩ := half_pow n h h2 hb hp
      by_cases hi : i < halfN n
      · rw [side_left n i h2 hb hi, List.length_cons]
        have := side_high f (halfN n) i (h - 1) (by omega) (by omega) h3
        omega
      · rw [side_right n i h2 hb hi, List.length_cons]
        have := side_high f (n - halfN n) (i - halfN n) (h - 1) (by omega) (by omega) (by omega)
        omega
/-- A leaf's path leads to the root. -/
theorem top_path : ∀ (f : Nat) (ls : List Idb) (i : Nat) (x : Idb), ls.length ≤ f → ls.length ≤ 1099511627776 → ls[i]? = some x → top (side ls.length i).reverse x (path ls i) = root ls
  | 0, ls, i, x, hf, _, hx => by
    obtain rfl : ls = [] := List.length_eq_zero_iff.1 (by omega)
    simp at hx
  | f + 1, ls, i, x, hf, hb, hx => by
    have hi := (List.getElem?_eq_some_iff.1 hx).1
    rcases Nat.lt_or_ge ls.length 2 with h2 | h2
    · rw [side_one _ i (by omega), path_one ls i (by omega)]
      obtain ⟨y, rfl⟩ : ∃ y, ls = [y] := by
        match ls, h2, hi with
        | [y], _, _ => exact ⟨y, rfl⟩
      obtain rfl : i = 0 := by simp at hi; omega
      rw [root_one]
      simp only [List.getElem?_cons_zero, Option.some.injEq] at hx
      simp [top, hx]
    · have hs := half_sand ls.length h2 hb
      have hp := half_pos ls.length
      obtain ⟨k, hk⟩ : ∃ k, halfN ls.length = k := ⟨_, rfl⟩
      by_cases hik : i < halfN ls.length
      · have ht : (ls.take k).length = k := by rw [List.length_take]; omega
        have hr := top_path f (ls.take k) i x (by omega) (by omega) (by rw [List.getElem?_take, if_pos (by omega)]; exact hx)
        have hl := path_len (ls.take k) i (by omega)
        rw [ht] at hr hl
        rw [side_left _ i h2 hb hik, path_left ls i h2 hb hik, List.reverse_cons, hk, top_snoc _ _ _ _ _ (by rw [List.length_reverse, hl]), hr, root_cut ls h2 hb, hk]
        rfl
      · have ht : (ls.drop k).length = ls.length - k := by rw [List.length_drop]
        have hr := top_path f (ls.drop k) (i - k) x (by omega) (by omega) (by rw [List.getElem?_drop, show k + (i - k) = i by omega]; exact hx)
        have hl := path_len (ls.drop k) (i - k) (by omega)
        rw [ht] at hr hl
        rw [side_right _ i h2 hb hik, path_right ls i h2 hb hik, List.reverse_cons, hk, top_snoc _ _ _ _ _ (by rw [List.length_reverse, hl]), hr, root_cut ls h2 hb, hk]
        rfl
/-- The path of a leaf checks. -/
theorem chk_path (ls : List Idb) (i : Nat) (x : Idb) (hb : ls.length ≤ 64) (hx : ls[i]? = some x) : chk (root ls) (ls.length : Nat) (i : Nat) x (path ls i) = true := by
  have hi := (List.getElem?_eq_some_iff.1 hx).1
  have ht := top_path ls.length ls i x (Nat.le_refl _) (by omega) hx
  have hl := path_len ls i (by omega)
  have hs : sidesOf (ls.length : Nat) (i : Nat) = (side ls.length i).reverse := rfl
  unfold chk chkIn
  rw [hs, ht, decide_eq_true (show 1 ≤ ((ls.length : Nat) : Int) ∧ ((ls.length : Nat) : Int) ≤ 64 ∧ 0 ≤ ((i : Nat) : Int) ∧ ((i : Nat) : Int) < (ls.length : Nat) by omega), List.length_reverse, hl, decide_eq_true rfl]
  simp [ieq]
/-- A path of another length does not. -/
theorem chk_short (r : Idb) (n i : Nat) (x : Idb) (p : List Idb) (h : (side n i).length ≠ p.length) : chk r (n : Nat) (i : Nat) x p = false := by
  have hs : sidesOf (n : Nat) (i : Nat) = (side n i).reverse := rfl
  unfold chk
  rw [hs, List.length_reverse, decide_eq_false h, Bool.false_and, Bool.and_false]
end Go.Proofs.Ytleaemeihljlnaa
/- The walk of TreePaths. -/
namespace Go.Proofs.Ytleaemeihljlnaa
set_option linter.unusedVariables false
set_option linter.unusedSimpArgs false
open Go.RowKit
theorem envR_abs {P : Program} {md : Region.Mode} {ops : Array Oper} {H : World → Prop} {Q : Exit → Act → World → Prop} {f : Nat} {li : Array Bool} {a : Act} {X : World} (h : ∀ Y, Y = X → wpEnvR P md ops H Q f li a Y) : wpEnvR P md ops H Q f li a X := h X rfl
set_option maxRecDepth 100000 in
set_option maxHeartbeats 6400000 in
theorem treePaths_walk (q : Option Addr) (c : Nat) (l : List Idb) (hm : l.length ≤ maxLen) (i : Int) (r : Idb) (w : World) (hs : ShowsI w (.slice q l.length c) l) :
    Calls Try.prog 4 #[.slice q l.length c, .int .i64 i, .agg (iv r.l)] w fun e w' => e = .returned (.bool true) ∧ Grew w w' := by
  have HS := Lib.hid hs
  clear hs hm
  have hrl := r.len
  obtain ⟨N, hN⟩ : ∃ N, l.length = N := ⟨_, rfl⟩
  have HN := Lib.hid hN
  rw [hN] at HS ⊢
  clear hN
  by_cases h4 : ¬ (¬ 64 < (N : Int) ∧ ¬ i < 0 ∧ ¬ (N : Int) ≤ i)
  · have h5 : 64 < (N : Int) ∨ (¬ 64 < (N : Int) ∧ i < 0) ∨ (¬ 64 < (N : Int) ∧ ¬ i < 0 ∧ (N : Int) ≤ i) := by omega
    clear h4
    rcases h5 with h1 | ⟨h1, h2⟩ | ⟨h1, h2, h3⟩
    all_goals
      go_enter Try.func4, Try.ntmps4
      go_wp2_with (go_at_call 9; refine (awake_w _).mono ?_; rintro e w' ⟨rfl, δ, rfl⟩)
      go_ret
      exact ⟨rfl, (by repeat (first | with_reducible exact Grew.refl _ | with_reducible apply Grew.alloc | with_reducible apply Grew.grow | with_reducible apply Grew.drew | with_reducible apply Grew.drewN))⟩
  obtain ⟨h1, h2, h3⟩ : ¬ 64 < (N : Int) ∧ ¬ i < 0 ∧ ¬ (N : Int) ≤ i := by omega
  clear h4
  obtain ⟨j, rfl⟩ : ∃ j : Nat, i = (j : Int) := ⟨i.toNat, by omega⟩
  obtain ⟨x, hx⟩ : ∃ x, l[j]? = some x := ⟨_, List.getElem?_eq_getElem (by have := HN.out; omega)⟩
  have hxl := x.len
  have hok : pathOk l j = true := decide_eq_true (by rw [HN.out]; omega)
  have hof : pathOf l j = path l j := by unfold pathOf; rw [if_pos hok]; rfl
  have CP := Lib.hid (fun W (g : Grew w W) => path_w l j (.slice q N c) W (HS.out.grew g))
  rw [hok, hof] at CP
  have hplen := path_len l j (by rw [HN.out]; omega)
  rw [HN.out] at hplen
  have CR := Lib.hid (prefix_calls l _ w (by rw [HN.out]; omega) HS.out)
  have hck := chk_path l j x (by rw [HN.out]; omega) hx
  rw [HN.out] at hck
  have hrl2 := (root l).len
  obtain ⟨R, hR⟩ : ∃ R, root l = R := ⟨_, rfl⟩
  rw [hR] at CR hck hrl2
  obtain ⟨ps, hps⟩ : ∃ ps, path l j = ps := ⟨_, rfl⟩
  rw [hps] at CP hplen hck
  have hc2 := chk_short R N j x (ps ++ [r]) (by rw [← hplen]; simp)
  have hc3 : 0 < ps.length → chk R N j x (ps.take (ps.length - 1)) = false := fun h => chk_short R N j x _ (by rw [← hplen, List.length_take]; omega)
  have hhigh : ∀ e, N ≤ 2 ^ e → ps.length ≤ e := fun e he => by rw [hplen]; exact side_high N N j e (Nat.le_refl _) (by omega) he
  have hp64 : ps.length < 64 := by rw [hplen]; have := side_len N j (by omega) (by omega); omega
  have hhs := HS.out
  rw [← HN.out] at hhs
  obtain ⟨b, o, rfl, _, hcc, hb, hat⟩ := showsI_some hhs (by have := HN.out; omega)
  have ql : ∀ W, Grew w W → ∀ δ, (rowLoad 29 (.pointer (some ⟨b, o + j * 32, none⟩))).run Try.prog (W.grow δ) = .ok (.value (.agg (iv x.l))) (W.grow δ) := fun W g δ => load_idm (World.rangeAt.grew (hat j x hx) (g.trans ⟨δ, rfl⟩))
  have QL := Lib.hid ql
  have C1 := Lib.hid hck
  have C2 := Lib.hid hc2
  have C3 := Lib.hid hc3
  have HH := Lib.hid hhigh
  clear hhs ql hck hc2 hc3 hhigh hat hR hps hx hok hof hcc hplen
  go_enter Try.func4, Try.ntmps4
  go_wp2_with (first | (go_at_call 9; refine (awake_w _).mono ?_; rintro e w' ⟨rfl, δ, rfl⟩) | (go_at_call 10; refine stop_of ?_))
  unfold Stop
  refine Calls_abs ?_
  intro X hX
  have gX : Grew w X := by rw [hX]; exact (by repeat (first | with_reducible exact Grew.refl _ | with_reducible apply Grew.alloc | with_reducible apply Grew.grow | with_reducible apply Grew.drew | with_reducible apply Grew.drewN))
  have rX : X.rowAt w.heap.size = iv r.l := by rw [hX]; simp [go_sem]
  have zX : w.heap.size < X.heap.size := by rw [hX]; simp; omega
  clear hX
  refine (CP.out X gX).mono ?_
  rintro e W1 ⟨v1, rfl, ho, hg⟩
  have hpsh := ho.shows Idb.cs_len
  obtain ⟨p1, c1, rfl⟩ := showsI_form hpsh
  obtain ⟨P, hP⟩ : ∃ P, ps.length = P := ⟨_, rfl⟩
  have HP := Lib.hid hP
  rw [hP] at hpsh hp64 ⊢
  have g1 : Grew w W1 := gX.trans hg
  have r1 : W1.rowAt w.heap.size = iv r.l := by rw [Grew.rowAt hg _ zX]; exact rX
  have z1 : w.heap.size < W1.heap.size := Nat.lt_of_lt_of_le zX hg.size
  have G1 := Lib.hid g1
  have PS := Lib.hid hpsh
  clear ho hg gX rX zX hpsh g1 CP hP
  go_wp2_with (go_at_call 13; refine (CR.out _ G1.out).mono ?_; rintro e w' ⟨rfl, δ', rfl⟩)
  refine code_abs ?_
  intro V hV
  have gV : Grew W1 V := by rw [hV]; exact (by repeat (first | with_reducible exact Grew.refl _ | with_reducible apply Grew.alloc | with_reducible apply Grew.grow | with_reducible apply Grew.drew | with_reducible apply Grew.drewN))
  have rV : V.rowAt w.heap.size = iv r.l := by rw [Grew.rowAt gV _ z1]; exact r1
  have zV : w.heap.size < V.heap.size := Nat.lt_of_lt_of_le z1 gV.size
  have rV2 : V.rowAt (W1.heap.size + δ'.n) = iv R.l := by rw [hV]; simp [go_sem]
  have zV2 : W1.heap.size + δ'.n < V.heap.size := by rw [hV]; simp
  obtain ⟨g10, hg10⟩ : ∃ g, W1.heap.size + δ'.n = g := ⟨_, rfl⟩
  rw [hg10] at rV2 zV2 ⊢
  have GV := Lib.hid (G1.out.trans gV)
  have PV := Lib.hid (PS.out.grew gV)
  clear hV gV G1 PS r1 z1 hg10
  go_loopw [11, 12] (fun h n wr => ∃ e : Nat, e ≤ 6 ∧ h = .int .i64 e ∧ n = .int .i64 ((2 ^ e : Nat) : Int) ∧ Grew V wr) (fun h n _ => 6 - (intOf h).toNat)
  case atStart => exact ⟨0, by omega, rfl, rfl, Grew.refl _⟩
  case round =>
    obtain ⟨e, he, rfl, rfl, g⟩ := hrel
    have HG := Lib.hid g
    clear g
    have hp1 : 2 ^ e ≤ 2 ^ 6 := Nat.pow_le_pow_right (by omega) he
    have hp2 : 2 ^ (e + 1) = 2 * 2 ^ e := by rw [Nat.pow_succ]; omega
    have hp4 : e = 6 → 2 ^ e = 64 := fun h => by rw [h]
    obtain ⟨B, hB⟩ : ∃ B, 2 ^ e = B := ⟨_, rfl⟩
    rw [hB] at hp1 hp2 hp4
    have HB := Lib.hid hB
    have HP2 := Lib.hid hp2
    simp only [hB]
    clear hB hp2
    by_cases hk : (B : Int) < (N : Int)
    · have hb2 : (2 * (B : Int)) = ((2 ^ (e + 1) : Nat) : Int) := by rw [HP2.out]; omega
      have he5 : (e : Int) < 6 := by omega
      have HQ := Lib.hid hb2
      clear hp1 hp4 hb2
      go_wp2
      exact ⟨⟨e + 1, by omega, by go_num, by rw [HQ.out], HG.out⟩, by simp only [intOf]; omega⟩
    · have hPe := HH.out e (by rw [HB.out]; omega)
      rw [HP.out] at hPe
      have hpe : decide (e < P) = false := decide_eq_false (by omega)
      have heI : (e : Int) ≤ 6 := by omega
      clear hPe hp4 hp1
      go_wp2
      have r5 : wr.rowAt w.heap.size = iv r.l := by rw [Grew.rowAt HG.out _ zV]; exact rV
      have r10 : wr.rowAt g10 = iv R.l := by rw [Grew.rowAt HG.out _ zV2]; exact rV2
      have z5 : w.heap.size < wr.heap.size := Nat.lt_of_lt_of_le zV HG.out.size
      have z10 : g10 < wr.heap.size := Nat.lt_of_lt_of_le zV2 HG.out.size
      have GW := Lib.hid (GV.out.trans HG.out)
      have PW := Lib.hid (PV.out.grew HG.out)
      have q1 := QL.out wr GW.out
      have K1 := Lib.hid (fun W (g : Grew wr W) => check_w R N j x ps (.slice p1 P c1) W (PW.out.grew g) (by rw [HP.out]; omega))
      rw [C1.out] at K1
      have K2 := Lib.hid (fun W v (g : ShowsI W v (ps ++ [r])) => check_w R N j x (ps ++ [r]) v W g (by rw [List.length_append, HP.out]; simp; omega))
      rw [C2.out] at K2
      clear rV rV2 zV zV2 GV PV HG HB HP2 QL HH CR C1
      obtain ⟨ii, hif, hz, hsz, hby⟩ := info_id
      first
      | apply wp_region_tree_g [0,1,2,3,4,5,6,7,8,9,10,11,12,13,14,15,16,17,18,19,20,21,22,23,24,25,26,27,28,29,30,32] [31,33,34,35,36] (by kernel_rfl) (by kernel_rfl) (by kernel_rfl) (by intro _ _ _ d _ h; cases d <;> exact h) _
      | apply wp_region_tree_p [0,1,2,3,4,5,6,7,8,9,10,11,12,13,14,15,16,17,18,19,20,21,22,23,24,25,26,27,28,29,30,32] [31,33,34,35,36] (by kernel_rfl) (by kernel_rfl) (by kernel_rfl) (by intro _ _ _ d _ h; cases d <;> exact h) _
      · intro A hA δ'
        simp only [pickOps_cons, pickOps_nil, pick1_zero, pick1_succ]
        repeat (go_big_quiet_step ((go_at_call 17; with_reducible exact Calls.pure_of_g (K1.out _ (by repeat (first | with_reducible exact Grew.refl _ | with_reducible apply Grew.alloc | with_reducible apply Grew.grow | with_reducible apply Grew.drew | with_reducible apply Grew.drewN))))))
        exact wpQuiet_nil hA.out.symm
      refine wpEnvR_two 31 33 (by decide +kernel) (by kernel_rfl) ?_ ?_
      rotate_left
      refine wpEnvS_intro ?_
      simp only [pickOps_cons, pickOps_nil, pick1_zero, pick1_succ]
      intro δ1
      go_wp2
      refine ⟨(show Grew wr _ from (by repeat (first | with_reducible exact Grew.refl _ | with_reducible apply Grew.alloc | with_reducible apply Grew.grow | with_reducible apply Grew.drew | with_reducible apply Grew.drewN))), ?_⟩
      refine envR_abs ?_
      intro Y1 hY
      have HR1 : Hid (ShowsI Y1 (.slice (some ⟨wr.heap.size + δ1.n, 0, none⟩) 1 1) [r]) := Lib.hid (by rw [hY]; exact made1_g wr δ1 r)
      have GY1 := Lib.hid (show Grew wr Y1 by rw [hY]; exact (by repeat (first | with_reducible exact Grew.refl _ | with_reducible apply Grew.alloc | with_reducible apply Grew.grow | with_reducible apply Grew.drew | with_reducible apply Grew.drewN)))
      obtain ⟨g5, hg5⟩ : ∃ g, wr.heap.size + δ1.n = g := ⟨_, rfl⟩
      rw [hg5] at HR1 ⊢
      clear hY hg5
      refine wpEnvR_one 31 (by decide +kernel) (by kernel_rfl) ?_
      refine wpEnvS_intro ?_
      simp only [pickOps_cons, pickOps_nil, pick1_zero, pick1_succ]
      intro δ2
      refine wpList_unguard rfl ?_
      refine wpList_appendE2 Idb.cs_len (by decide) rfl _ _ _ rfl _ ii _ 32 under_ids hif hz hsz hby (by exact (iv_size id0).trans id0_len) cs_one Y1 _ Y1.heap.size _ _ rfl rfl [] ps ⟨_, rfl⟩ (Nat.le_refl _) (by rw [size_grow]; omega) (by exact OwnE.nil _ _ _) (by exact PW.out.grew (GY1.out.trans ⟨δ2, rfl⟩)) (by simp only [maxLen, List.length_cons, List.length_nil]; have := HP.out; omega) (by simp only [List.length_cons, List.length_nil]; have := HP.out; omega) ?_
      intro v2 Y ho2 hg2
      refine wpList_nil_then ?_
      refine ⟨GY1.out.trans hg2, ?_⟩
      have HO := Lib.hid ho2
      have HR := Lib.hid (HR1.out.grew hg2)
      have GY := Lib.hid (GY1.out.trans hg2)
      obtain ⟨base, hb1, hb2⟩ : ∃ b, b = Y1.heap.size ∧ wr.heap.size ≤ b ∧ b ≤ Y.heap.size := ⟨_, rfl, GY1.out.size, hg2.size⟩
      rw [← hb1] at HO
      clear ho2 hg2 HR1 GY1 hb1
      rotate_left
      refine wpEnvS_intro ?_
      simp only [pickOps_cons, pickOps_nil, pick1_zero, pick1_succ]
      intro δ1
      refine wpList_unguard rfl ?_
      refine wpList_appendE2 Idb.cs_len (by decide) rfl _ _ _ rfl _ ii _ 32 under_ids hif hz hsz hby (by exact (iv_size id0).trans id0_len) cs_one wr _ wr.heap.size _ _ rfl rfl [] ps ⟨_, rfl⟩ (Nat.le_refl _) (by rw [size_grow]; omega) (by exact OwnE.nil _ _ _) (by exact PW.out.grew ⟨δ1, rfl⟩) (by simp only [maxLen, List.length_cons, List.length_nil]; have := HP.out; omega) (by simp only [List.length_cons, List.length_nil]; have := HP.out; omega) ?_
      intro v2 W2 ho2 hg2
      refine wpList_nil_then ?_
      refine ⟨hg2, ?_⟩
      have HO2 := Lib.hid ho2
      have HG2 := Lib.hid hg2
      clear ho2 hg2
      refine wpEnvR_one 33 (by decide +kernel) (by kernel_rfl) ?_
      refine wpEnvS_intro ?_
      simp only [pickOps_cons, pickOps_nil, pick1_zero, pick1_succ]
      intro δ2
      go_wp2
      refine ⟨HG2.out.trans (by repeat (first | with_reducible exact Grew.refl _ | with_reducible apply Grew.alloc | with_reducible apply Grew.grow | with_reducible apply Grew.drew | with_reducible apply Grew.drewN)), ?_⟩
      refine envR_abs ?_
      intro Y hY
      have HR : Hid (ShowsI Y (.slice (some ⟨W2.heap.size + δ2.n, 0, none⟩) 1 1) [r]) := Lib.hid (by rw [hY]; exact made1_g W2 δ2 r)
      have HO := Lib.hid (show OwnE 32 Idb.cs Y wr.heap.size 29 v2 ps by rw [hY]; exact HO2.out.grew (by repeat (first | with_reducible exact Grew.refl _ | with_reducible apply Grew.alloc | with_reducible apply Grew.grow | with_reducible apply Grew.drew | with_reducible apply Grew.drewN)))
      have GY := Lib.hid (show Grew wr Y by rw [hY]; exact HG2.out.trans (by repeat (first | with_reducible exact Grew.refl _ | with_reducible apply Grew.alloc | with_reducible apply Grew.grow | with_reducible apply Grew.drew | with_reducible apply Grew.drewN)))
      obtain ⟨g5, hg5⟩ : ∃ g, W2.heap.size + δ2.n = g := ⟨_, rfl⟩
      rw [hg5] at HR ⊢
      obtain ⟨base, hb1, hb2⟩ : ∃ b, b = wr.heap.size ∧ wr.heap.size ≤ b ∧ b ≤ Y.heap.size := ⟨_, rfl, Nat.le_refl _, GY.out.size⟩
      rw [← hb1] at HO
      clear hY HO2 HG2 hg5 hb1
      all_goals
        refine wpEnvR_one 34 (by decide +kernel) (by kernel_rfl) ?_
        refine wpEnvS_intro ?_
        simp only [pickOps_cons, pickOps_nil, pick1_zero, pick1_succ]
        intro δ3
        refine wpList_unguard rfl ?_
        refine wpList_appendE2 Idb.cs_len (by decide) rfl _ _ _ rfl _ ii _ 32 under_ids hif hz hsz hby (by exact (iv_size id0).trans id0_len) cs_one wr _ base _ _ rfl rfl ps [r] (GY.out.trans ⟨δ3, rfl⟩) hb2.1 (by rw [size_grow]; omega) (by exact HO.out.grew ⟨δ3, rfl⟩) (by exact HR.out.grew ⟨δ3, rfl⟩) (by simp only [maxLen, List.length_cons, List.length_nil]; have := HP.out; omega) (by simp only [List.length_cons, List.length_nil]; have := HP.out; omega) ?_
        intro v3 W3 ho3 hg3
        refine wpList_nil_then ?_
        refine ⟨hg3, ?_⟩
        have HO3 := Lib.hid (ho3.shows Idb.cs_len)
        have HG3 := Lib.hid hg3
        clear ho3 hg3 HO HR GY hb2
        refine wpEnvR_one 35 (by decide +kernel) (by kernel_rfl) ?_
        refine wpEnvS_intro ?_
        simp only [pickOps_cons, pickOps_nil, pick1_zero, pick1_succ]
        intro δ4
        go_wp2_with (go_at_call 17; refine (K2.out _ v3 (HO3.out.grew ⟨δ4, rfl⟩)).mono ?_; rintro e w' ⟨rfl, δ5, rfl⟩)
        refine ⟨HG3.out.trans (by repeat (first | with_reducible exact Grew.refl _ | with_reducible apply Grew.alloc | with_reducible apply Grew.grow | with_reducible apply Grew.drew | with_reducible apply Grew.drewN)), ?_⟩
        refine wpEnvR_one 36 (by decide +kernel) (by kernel_rfl) ?_
        refine wpEnvS_intro ?_
        simp only [pickOps_cons, pickOps_nil, pick1_zero, pick1_succ]
        intro δ6
        go_wp2
        refine ⟨HG3.out.trans (by repeat (first | with_reducible exact Grew.refl _ | with_reducible apply Grew.alloc | with_reducible apply Grew.grow | with_reducible apply Grew.drew | with_reducible apply Grew.drewN)), ?_⟩
        refine wpEnvR_end ?_
        intro δ7
        simp only [grow_grow]
        go_wp2
        refine code_abs ?_
        intro Z hZ
        have gZ : Grew wr Z := by rw [hZ]; exact HG3.out.trans (by repeat (first | with_reducible exact Grew.refl _ | with_reducible apply Grew.alloc | with_reducible apply Grew.grow | with_reducible apply Grew.drew | with_reducible apply Grew.drewN))
        have GZ := Lib.hid (GW.out.trans gZ)
        have s10 : Z.rowAt g10 = iv R.l := by rw [Grew.rowAt gZ _ z10]; exact r10
        have y10 : g10 < Z.heap.size := Nat.lt_of_lt_of_le z10 gZ.size
        have q2 : ∀ δ, (rowLoad 29 (.pointer (some ⟨b, o + j * 32, none⟩))).run Try.prog (Z.grow δ) = .ok (.value (.agg (iv x.l))) (Z.grow δ) := fun δ => by
          obtain ⟨δz, rfl⟩ := gZ
          rw [grow_grow]
          exact q1 _
        have PZ := Lib.hid (PW.out.grew gZ)
        clear hZ gZ HG3 HO3 GW PW K1 K2 C2 hpe r5 r10 z5 z10 q1
        by_cases hP0 : P = 0
        · have hd : decide (P = 0) = true := decide_eq_true hP0
          clear C3
          refine wp_region_flow (by kernel_rfl) ?_
          intro δf
          apply wpFlow_quiets [0,1,2,3,4,5,6,7,8,9,10,11,12,13,14,15,16,17,18,19,20] (by decide +kernel) (by decide +kernel) (by kernel_rfl) (by intro _ _ _ d _ h; cases d <;> exact h) _
          · intro A hA δ'
            simp only [pickOps_cons, pickOps_nil, pick1_zero, pick1_succ]
            repeat (go_big_quiet_step ((fail)))
            exact wpQuiet_nil hA.out.symm
          refine wpFlow_end (by decide +kernel) (by kernel_rfl) ?_
          intro δf
          go_wp2
          go_ret
          exact ⟨rfl, GZ.out.trans (by repeat (first | with_reducible exact Grew.refl _ | with_reducible apply Grew.alloc | with_reducible apply Grew.grow | with_reducible apply Grew.drew | with_reducible apply Grew.drewN))⟩
        · have hd : ((P : Int) == 0) = false := by simp; omega
          have h3 := C3.out (by rw [HP.out]; omega)
          rw [HP.out] at h3
          have hz := PZ.out
          rw [← HP.out] at hz
          obtain ⟨b1, o1, rfl, _, hc1, hb1, hat1⟩ := showsI_some hz (by rw [HP.out]; omega)
          have p2 : ShowsI Z (.slice (some ⟨b1, o1, none⟩) (P - 1) c1) (ps.take (P - 1)) := by
            have := showsI_part (o := o1) hb1 hat1 0 (P - 1) c1 (by rw [HP.out]; omega) (by rw [HP.out] at hc1; omega)
            simpa using this
          have K3 := Lib.hid (fun W (g : Grew Z W) => check_w R N j x (ps.take (P - 1)) _ W (p2.grew g) (by rw [List.length_take]; omega))
          rw [h3] at K3
          have hPc : (P : Int) - 1 ≤ (c1 : Int) := by rw [HP.out] at hc1; omega
          have hP1 : 0 ≤ (P : Int) - 1 := by omega
          have hPe : (P : Int) - 1 = ((P - 1 : Nat) : Int) := by omega
          clear h3 hz hat1 hb1 C3 p2 hc1 PZ
          refine wp_region_flow (by kernel_rfl) ?_
          intro δf
          apply wpFlow_quiets [0,1,2,3,4,5,6,7,8,9,10,11,12,13,14,15,16] (by decide +kernel) (by decide +kernel) (by kernel_rfl) (by intro _ _ _ d _ h; cases d <;> exact h) _
          · intro A hA δ'
            simp only [pickOps_cons, pickOps_nil, pick1_zero, pick1_succ]
            repeat (go_big_quiet_step ((fail)))
            exact wpQuiet_nil hA.out.symm
          apply wpFlow_quiets [17] (by decide +kernel) (by decide +kernel) (by kernel_rfl) (by intro _ _ _ d _ h; cases d <;> exact h) _
          · intro A hA δ'
            simp only [pickOps_cons, pickOps_nil, pick1_zero, pick1_succ]
            repeat (go_big_quiet_step ((go_at_call 17; (with_reducible first | exact Calls.pure_of_g3 (K3.out _ (by repeat (first | with_reducible exact Grew.refl _ | with_reducible apply Grew.alloc | with_reducible apply Grew.grow | with_reducible apply Grew.drew | with_reducible apply Grew.drewN))) | exact Calls.pure_of_g4 (K3.out _ (by repeat (first | with_reducible exact Grew.refl _ | with_reducible apply Grew.alloc | with_reducible apply Grew.grow | with_reducible apply Grew.drew | with_reducible apply Grew.drewN))) | exact Calls.pure_of_g (K3.out _ (by repeat (first | with_reducible exact Grew.refl _ | with_reducible apply Grew.alloc | with_reducible apply Grew.grow | with_reducible apply Grew.drew | with_reducible apply Grew.drewN))) | exact Calls.pure_of_g5 (K3.out _ (by repeat (first | with_reducible exact Grew.refl _ | with_reducible apply Grew.alloc | with_reducible apply Grew.grow | with_reducible apply Grew.drew | with_reducible apply Grew.drewN)))))))
            exact wpQuiet_nil hA.out.symm
          apply wpFlow_quiets [18,19,20] (by decide +kernel) (by decide +kernel) (by kernel_rfl) (by intro _ _ _ d _ h; cases d <;> exact h) _
          · intro A hA δ'
            simp only [pickOps_cons, pickOps_nil, pick1_zero, pick1_succ]
            repeat (go_big_quiet_step ((fail)))
            exact wpQuiet_nil hA.out.symm
          refine wpFlow_end (by decide +kernel) (by kernel_rfl) ?_
          intro δf
          go_wp2
          go_ret
          exact ⟨rfl, GZ.out.trans (by repeat (first | with_reducible exact Grew.refl _ | with_reducible apply Grew.alloc | with_reducible apply Grew.grow | with_reducible apply Grew.drew | with_reducible apply Grew.drewN))⟩
end Go.Proofs.Ytleaemeihljlnaa
namespace Go.Proofs.Ytleaemeihljlnaa.treePaths
set_option linter.unusedVariables false
set_option linter.unusedSimpArgs false
open Go.ChangeShapes Go.WideShapes Go.ChangeAt Go.RowKit

set_option maxRecDepth 100000 in
theorem lifted (os : Os) (started : os.Started) (H : Type) (enc : TypeId × Value → H) :
    ReturnsInHanded {} Try.checked os 4 .any (Rows.treePathsSpec.pre6 enc Try.prog Try.f4 Rows.treePathsRow.domain false) (Rows.treePathsSpec.post enc Try.prog Try.f4 false true false false) := by
  refine returnsInHanded_of_change (C := Try.checked) own started (by kernel_rfl) Try.func4
    (ChangeSpec.witness6 (enc := enc) (C := Try.checked) false ⟨#[], #[.slice none 0 0, .int .i64 0, .agg (Array.replicate 32 (.int .u8 0))], []⟩ 8 (by kernel_rfl) (by kernel_rfl) (by kernel_rfl) (by kernel_rfl)) ?_
  intro W base args ds gs before hval0 hW _ _
  have hval : ∀ (j : Nat) t v, Try.f4.params[j]? = some t → args[j]? = some v → Value.okWide Try.prog W .any base t v := hval0
  have hW' := hW
  obtain ⟨p, q, hA0, hV, rfl, hfz, hnd⟩ := hW
  have hA : DataW.TrodAll enc Try.prog W 0 (fun _ => true) true Try.f4.params.toList args.toList ds p := hA0
  have hAk := hA
  rw [Try.params4] at hA hval
  obtain ⟨v0, vs0, d0, ds0, p0, q0, hargs0, rfl, rfl, h0, r0⟩ := trodAll_cons hA
  obtain ⟨v1, vs1, d1, ds1, p1, q1, hargs1, rfl, rfl, h1, r1⟩ := trodAll_cons r0
  obtain ⟨v2, vs2, d2, ds2, p2, q2, hargs2, rfl, rfl, h2, r2⟩ := trodAll_cons r1
  obtain ⟨rfl, rfl, rfl⟩ := trodAll_nil r2
  subst hargs2
  subst hargs1
  obtain rfl : args = #[v0, v1, v2] := by cases args; simp_all
  obtain ⟨rfl, rfl⟩ := trodVars_none hV
  obtain ⟨q0', n0', c0', rfl⟩ := okWide_slice Try.underlying22 (hval 0 22 v0 rfl rfl)
  obtain ⟨aq0, ac0, al0, ae0, am0, as0⟩ := open_ids h0 rfl
  rw [ae0]
  obtain ⟨a1, rfl, rfl, _, w1⟩ := open_int Try.underlying3 (hval 1 3 v1 rfl rfl) h1
  obtain ⟨a2, rfl, _, _⟩ := open_id (hval 2 29 v2 rfl rfl) h2
  simp only [List.append_nil] at hW'
  refine (treePaths_walk aq0 ac0 al0 am0 a1 a2 W as0).mono fun e W' ⟨he, hg⟩ => ?_
  subst he
  rw [← ae0]
  exact ⟨_, rfl, post_of_stays hW' rfl (by simpa using hAk) (types_ok _ (by rw [Try.params4]; kernel_rfl)) rfl rfl (fun _ _ _ => (trodAll_cons_mk (shut_bool Try.underlying4 _) trodAll_mk0))
    hg (ok_one (by kernel_rfl) rfl (okWide_bool_mk Try.underlying4 _))⟩

theorem proved : Rows.TreePathsSaid :=
  OpenClaim.holds_of_wide 4 Try.f4 rfl rfl rfl rfl rfl rfl rfl ⟨rfl, rfl, rfl, rfl, rfl⟩ rfl rfl rfl rfl rfl (by kernel_rfl) Try.func4 (by kernel_rfl)
    (of_decide_eq_true (by kernel_rfl)) (by unfold Func.isWrapper; first | (rw [if_pos (by decide +kernel)]; kernel_rfl) | (rw [if_neg (by decide +kernel)]; exact ⟨rfl, rfl⟩))
    (fun os started H enc _ => lifted os started H enc)
end Go.Proofs.Ytleaemeihljlnaa.treePaths
