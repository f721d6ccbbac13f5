/- 'stepladderlaw05.TreeTells' answers true for every slice of ids, int, int, slice of ids, slice of bytes, without panicking, and what it was handed reads as before. Conditions: none. -/
import Derived.Test.YtleaemeihljlnaaRows
import Derived.Test.YtleaemeihljlnaaM5
/- append, of whatever is shown, nothing too; a step whose guard holds. No program in sight. -/
namespace Go
set_option linter.unusedVariables false
set_option linter.unusedSimpArgs false
open Go.RowKit
theorem wpList_unguard {P : Program} {ops : Array Oper} {Q : Exit → Act → World → Prop} {d : Option Tmp} {op : Op} {t : TypeId} {p : String} {af : Array Edge} {j : Nat} {b : Bool} {rest : List Oper} {a : Act} {w : World}
    (hw : yielded ops a.tmps j = some b) (h : wpList P ops Q (⟨d, op, t, p, af, none⟩ :: rest) a w) : wpList P ops Q (⟨d, op, t, p, af, some (j, b)⟩ :: rest) a w := by
  unfold wpList at h ⊢
  have h1 : Region.wanted ⟨d, op, t, p, af, some (j, b)⟩ (yielded ops a.tmps) = true := by simp [Region.wanted, hw]
  have h2 : Region.wanted ⟨d, op, t, p, af, none⟩ (yielded ops a.tmps) = true := rfl
  rw [if_pos h1]
  rw [if_pos h2] at h
  exact h
theorem _root_.Go.Calls.pure_of_g5 {P : Program} {f : FuncId} {args : Array Value} {X : World} {a b c e n : Junk} {v : Value}
    (h : Calls P f args (X.grow ⟨a.objs ++ (b.objs ++ (c.objs ++ (e.objs ++ n.objs))), n.drawn⟩) fun e' w' => e' = .returned v ∧ Grew (X.grow ⟨a.objs ++ (b.objs ++ (c.objs ++ (e.objs ++ n.objs))), n.drawn⟩) w') :
    Calls P f args (X.grow ⟨a.objs ++ (b.objs ++ (c.objs ++ (e.objs ++ n.objs))), n.drawn⟩) fun e' w'' => e' = .returned v ∧ ∃ m : Junk, w'' = X.grow ⟨a.objs ++ (b.objs ++ (c.objs ++ (e.objs ++ m.objs))), m.drawn⟩ :=
  h.mono fun _ _ ⟨he, hm⟩ => ⟨he, by obtain ⟨m, rfl⟩ := hm; exact ⟨⟨n.objs ++ m.objs, m.drawn⟩, by simp [grow_grow, Array.append_assoc]⟩⟩
section
variable {α : Type} {k : Nat} {f : α → List Value}
/-- append, of whatever is shown, nothing too. -/
theorem wpList_appendE2 {P : Program} {ops : Array Oper} {rest : List Oper} {o : Oper} {a : Act} {Q : Exit → Act → World → Prop} (hf : ∀ x, (f x).length = k) (hk : 0 < k) (hgd : o.guard = none) (s x : Operand) (t : TypeId)
    (ho : o.op = .call { callee := .builtin .append, args := #[s, x], argTypes := #[t, t] }) (e : TypeId) (i : TypeInfo) (z : Value) (bytes : Nat) (ht : P.underlying t = some (.slice e)) (hi : P.info? e = some i) (hz : i.zero = some z)
    (hsize : i.size = k) (hby : i.bytes = bytes) (hzs : z.cells.size = k) (h1 : ∀ x, ∀ u ∈ f x, u.oneCell' = true) (A X : World) (base : Nat) (v y : Value) (hs : a.eval s = v) (hy : a.eval x = y) (xs news : List α) (hg : Grew A X) (hA : A.heap.size ≤ base) (hX : base ≤ X.heap.size) (hown : OwnE k f X base e v xs) (hsh : ShowsE k f X y news)
    (h63 : xs.length + news.length ≤ maxLen) (hbytes : (xs.length + news.length) * bytes ≤ 140737488355328)
    (h : ∀ v' w', OwnE k f w' base e v' (xs ++ news) → Grew A w' → wpList P ops Q rest (a.put o.dst v') w') : wpList P ops Q (o :: rest) a X := by
  rcases hsh with ⟨b, of, c, rfl, hc, hb, hr⟩ | ⟨p, c, rfl, rfl⟩
  · rcases Nat.eq_zero_or_pos news.length with h0 | hp
    · obtain rfl : news = [] := List.length_eq_zero_iff.1 h0
      have hblock := hown.block
      obtain ⟨v', w', hrun, h2, h3, _⟩ := run_append_own (P := P) X base t o.type e i z k bytes ht hi hz hsize hby hzs hk v xs.length (xs.flatMap f) hown ⟨b, of, none⟩ 0 c [] (by simp) (by simp) (by simp) h63 hbytes hX
      refine Lib.wpList_append_run X hgd s x t t ho v _ hs hy v' w' hrun (h v' w' ?_ (hg.grown h3 fun j hj => Nat.le_trans hA (hblock j hj).1))
      rw [List.append_nil] at h2 ⊢
      exact h2
    · exact wpList_appendE hf hk hgd s x t ho e i z bytes ht hi hz hsize hby hzs h1 A X base v _ hs hy xs news hg hA hX hown (.inl ⟨b, of, c, rfl, hc, hb, hr⟩) h63 hbytes hp fun v' w' a b _ => h v' w' a b
  · have hblock := hown.block
    cases p with
    | some ad =>
      obtain ⟨v', w', hrun, h2, h3, _⟩ := run_append_own (P := P) X base t o.type e i z k bytes ht hi hz hsize hby hzs hk v xs.length (xs.flatMap f) hown ad 0 c [] (by simp) (by simp) (by simp) h63 hbytes hX
      refine Lib.wpList_append_run X hgd s x t t ho v _ hs hy v' w' hrun (h v' w' ?_ (hg.grown h3 fun j hj => Nat.le_trans hA (hblock j hj).1))
      rw [List.append_nil] at h2 ⊢
      exact h2
    | none =>
      have hrun : (Builtin.append_ #[t, t] o.type #[v, .slice none 0 c]).run P X = .ok v X := by
        rcases hown.2 with ⟨rfl, h0⟩ | ⟨g, cap, cur, rfl, hb, hg, hn, hm, hs, hq⟩
        · simp [Builtin.append_, run_underlying ht, sizeOf, typeInfo, zeroValue, hi, hz, Question.forced, run_firstCells_none, Builtin.lenOf]
        · have hcl : ¬ (cap < xs.length) := by omega
          simp [Builtin.append_, run_underlying ht, sizeOf, typeInfo, zeroValue, hi, hz, Question.forced, run_firstCells_none, Builtin.lenOf, hcl, hn, storeCells]
      refine Lib.wpList_append_run X hgd s x t t ho v _ hs hy v X hrun (h v X ?_ hg)
      rw [List.append_nil]
      exact hown
end
end Go
namespace Go.Proofs.Ytleaemeihljlnaa
end Go.Proofs.Ytleaemeihljlnaa
/- The walk of TreeHalves. -/
namespace Go.Proofs.Ytleaemeihljlnaa
set_option linter.unusedVariables false
set_option linter.unusedSimpArgs false
open Go.RowKit
theorem made1 (w : World) (a : Idb) : ShowsI (w.alloc (.cells (iv a.l) 29)) (.slice (some ⟨w.heap.size, 0, none⟩) 1 1) [a] := by
  have h := (OwnE.made Idb.cs_len w w.heap.size 29 [a] (Nat.le_refl _) (by simp [maxLen])).shows Idb.cs_len
  have e1 : ([a].flatMap Idb.cs).toArray = iv a.l := by
    simp only [List.flatMap_cons, List.flatMap_nil, List.append_nil, Idb.cs]
    rfl
  rw [e1] at h
  exact h
theorem made1_g (w : World) (δ : Junk) (a : Idb) : ShowsI ((w.grow δ).alloc (.cells (iv a.l) 29)) (.slice (some ⟨w.heap.size + δ.n, 0, none⟩) 1 1) [a] := by
  have := made1 (w.grow δ) a
  rwa [size_grow] at this
theorem sides10 : sidesOf 1 0 = [] := by
  show (side 1 0).reverse = []
  rw [side_one 1 0 (by omega)]; rfl
theorem chk10 (r : Idb) : chk r 1 0 r [] = true := by
  unfold chk
  rw [sides10]
  have h2 : chkIn 1 0 = true := by decide
  rw [h2]
  simp [ieq, top]
theorem prefix_calls (l : List Idb) (v : Value) (w : World) (hl : l.length ≤ 1000000) (hs : ShowsI w v l) : ∀ W, Grew w W → Calls Try.prog 13 #[v] W fun e w' => e = .returned (.agg (iv (root l).l)) ∧ Grew W w' :=
  fun W g => root_w _ l v W (Nat.le_refl _) hl (hs.grew g)
set_option maxRecDepth 100000 in
set_option maxHeartbeats 6400000 in
theorem treeHalves_walk (q : Option Addr) (c : Nat) (l : List Idb) (hm : l.length ≤ maxLen) (k : Int) (r : Idb) (n i : Int) (w : World) (hs : ShowsI w (.slice q l.length c) l) :
    Calls Try.prog 5 #[.slice q l.length c, .int .i64 k, .agg (iv r.l), .int .i64 n, .int .i64 i] w fun e w' => e = .returned (.bool true) ∧ Grew w w' := by
  have HS := Lib.hid hs
  clear hs hm
  have hrl := r.len
  by_cases h4 : 32 < l.length
  · have h4' : decide (32 < (l.length : Int)) = true := decide_eq_true (by omega)
    go_enter Try.func5, Try.ntmps5
    go_wp2_with (go_at_call 9; refine (awake_w _).mono ?_; rintro e w' ⟨rfl, δ, rfl⟩)
    go_ret
    exact ⟨rfl, (by repeat (first | with_reducible exact Grew.refl _ | with_reducible apply Grew.alloc | with_reducible apply Grew.grow | with_reducible apply Grew.drew | with_reducible apply Grew.drewN))⟩
  obtain ⟨N, hN⟩ : ∃ N, l.length = N := ⟨_, rfl⟩
  have HN := Lib.hid hN
  rw [hN] at HS h4 ⊢
  clear hN
  have h4' : decide (32 < (N : Int)) = false := decide_eq_false (by omega)
  have hNI : (N : Int) ≤ 32 := by omega
  have hall : n < 1 ∨ (¬ n < 1 ∧ 64 < n) ∨ (¬ n < 1 ∧ ¬ 64 < n ∧ i < 0) ∨ (¬ n < 1 ∧ ¬ 64 < n ∧ ¬ i < 0 ∧ n ≤ i) ∨ (¬ n < 1 ∧ ¬ 64 < n ∧ ¬ i < 0 ∧ ¬ n ≤ i) := by omega
  have hchk : (n < 1 ∨ 64 < n ∨ i < 0 ∨ n ≤ i) → chk r n i r [] = false := fun h => chk_out (by omega) r r []
  have hI : (r.l).length = 32 := hrl
  have hcC : ∀ W, Calls Try.prog 17 #[.agg (iv r.l), .int .i64 n, .int .i64 i, .agg (iv r.l), .slice none 0 0] W fun e w' => e = .returned (.bool (chk r n i r [])) ∧ Grew W w' := fun W => check_w r n i r [] _ W (.inr ⟨_, _, rfl, rfl⟩) (by simp)
  have hc1 : ∀ W, Calls Try.prog 17 #[.agg (iv r.l), .int .i64 1, .int .i64 0, .agg (iv r.l), .slice none 0 0] W fun e w' => e = .returned (.bool true) ∧ Grew W w' := fun W => by
    have := check_w r 1 0 r [] _ W (.inr ⟨none, 0, rfl, rfl⟩) (by simp)
    rwa [chk10] at this
  have C1 := Lib.hid hc1
  have hrr : ieq r.l r.l = true := decide_eq_true rfl
  rcases hall with h | h | h | h | h
  all_goals
    have hodd := hchk
    clear hchk
    first
    | (replace hodd := hodd (by omega); rw [hodd] at hcC; clear hodd)
    | clear hodd
    have CC := Lib.hid hcC
    clear hcC hc1
    try obtain ⟨h1, h⟩ := h
    try obtain ⟨h2, h⟩ := h
    try obtain ⟨h3, h⟩ := h
    go_enter Try.func5, Try.ntmps5
    go_wp2_with (go_at_call 9; refine (awake_w _).mono ?_; rintro e w' ⟨rfl, δ, rfl⟩)
    refine code_abs ?_
    intro Y hY
    have gY : Grew w Y := by rw [hY]; exact (by repeat (first | with_reducible exact Grew.refl _ | with_reducible apply Grew.alloc | with_reducible apply Grew.grow | with_reducible apply Grew.drew | with_reducible apply Grew.drewN))
    have rY : Y.rowAt w.heap.size = iv r.l := by rw [hY]; simp [go_sem]
    have zY : w.heap.size < Y.heap.size := by rw [hY]; simp; omega
    have GY := Lib.hid gY
    clear hY gY
    try (have ho : (decide (n < 1) || decide (64 < n) || decide (i < 0) || decide (n ≤ i)) = false := (by (simp only [Bool.or_eq_false_iff, decide_eq_false_iff_not]; omega)); simp only [ho]; clear ho)
    refine wp_region_flow (by kernel_rfl) ?_
    intro δf
    apply wpFlow_quiets [0,1,2,3,4,5] (by decide +kernel) (by decide +kernel) (by kernel_rfl) (by intro _ _ _ d _ h; cases d <;> exact h) _
    · intro A hA δ'
      simp only [pickOps_cons, pickOps_nil, pick1_zero, pick1_succ]
      repeat (go_big_quiet_step ((fail)))
      exact wpQuiet_nil hA.out.symm
    apply wpFlow_quiets [6] (by decide +kernel) (by decide +kernel) (by kernel_rfl) (by intro _ _ _ d _ h; cases d <;> exact h) _
    · intro A hA δ'
      simp only [pickOps_cons, pickOps_nil, pick1_zero, pick1_succ]
      repeat (go_big_quiet_step ((go_at_call 17; (with_reducible first | exact Calls.pure_of_g3 (CC.out _) | exact Calls.pure_of_g4 (CC.out _) | exact Calls.pure_of_g (CC.out _) | exact Calls.pure_of_g5 (CC.out _)))))
      exact wpQuiet_nil hA.out.symm
    apply wpFlow_quiets [7,8,9,12] (by decide +kernel) (by decide +kernel) (by kernel_rfl) (by intro _ _ _ d _ h; cases d <;> exact h) _
    · intro A hA δ'
      simp only [pickOps_cons, pickOps_nil, pick1_zero, pick1_succ]
      repeat (go_big_quiet_step ((fail)))
      exact wpQuiet_nil hA.out.symm
    refine wpFlow_one 10 (by decide +kernel) (by kernel_rfl) (by kernel_rfl) ?_
    refine wpFlowS_intro ?_
    simp only [pickOps_cons, pickOps_nil, pick1_zero, pick1_succ]
    intro δf
    go_wp2_with (fail)
    refine ⟨(by first | assumption | (simp only [grow_grow, Array.append_assoc]; assumption) | exact Grew.refl _ | (simp only [grow_grow, Array.append_assoc]; exact (by repeat (first | with_reducible exact Grew.refl _ | with_reducible apply Grew.alloc | with_reducible apply Grew.grow | with_reducible apply Grew.drew | with_reducible apply Grew.drewN))) | exact (by repeat (first | with_reducible exact Grew.refl _ | with_reducible apply Grew.alloc | with_reducible apply Grew.grow | with_reducible apply Grew.drew | with_reducible apply Grew.drewN))), ?_⟩
    refine flow_abs ?_
    intro Z hZ
    have gZ : Grew Y Z := by rw [hZ]; exact (by repeat (first | with_reducible exact Grew.refl _ | with_reducible apply Grew.alloc | with_reducible apply Grew.grow | with_reducible apply Grew.drew | with_reducible apply Grew.drewN))
    have rZ : Z.rowAt w.heap.size = iv r.l := by rw [Grew.rowAt gZ _ zY]; exact rY
    have zZ : w.heap.size < Z.heap.size := Nat.lt_of_lt_of_le zY gZ.size
    have sZ : ∀ v, (∃ δ : Junk, Z = (Y.grow δ).alloc (.cells (iv r.l) 29) ∧ v = .slice (some ⟨Y.heap.size + δ.n, 0, none⟩) 1 1) → ShowsI Z v [r] := by
      rintro v ⟨δ, h, rfl⟩
      rw [h]
      exact made1_g Y δ r
    have hR : ∀ v, (∃ δ : Junk, Z = (Y.grow δ).alloc (.cells (iv r.l) 29) ∧ v = .slice (some ⟨Y.heap.size + δ.n, 0, none⟩) 1 1) → ∀ W, Grew Z W → Calls Try.prog 13 #[v] W fun e w' => e = .returned (.agg (iv r.l)) ∧ Grew W w' := fun v hv W g => by
      have := root_w 1 [r] v W (Nat.le_refl _) (by simp) ((sZ v hv).grew g)
      rwa [root_one] at this
    have SY := Lib.hid hR
    have HZ := Lib.hid hZ
    have GZ := Lib.hid (GY.out.trans gZ)
    clear gZ hZ sZ hR rY zY
    apply wpFlow_quiets [11] (by decide +kernel) (by decide +kernel) (by kernel_rfl) (by intro _ _ _ d _ h; cases d <;> exact h) _
    · intro A hA δ'
      simp only [pickOps_cons, pickOps_nil, pick1_zero, pick1_succ]
      repeat (go_big_quiet_step ((go_at_call 13; (with_reducible first | exact Calls.pure_of_g3 (SY.out _ ⟨_, HZ.out, rfl⟩ _ (by repeat (first | with_reducible exact Grew.refl _ | with_reducible apply Grew.alloc | with_reducible apply Grew.grow | with_reducible apply Grew.drew | with_reducible apply Grew.drewN))) | exact Calls.pure_of_g4 (SY.out _ ⟨_, HZ.out, rfl⟩ _ (by repeat (first | with_reducible exact Grew.refl _ | with_reducible apply Grew.alloc | with_reducible apply Grew.grow | with_reducible apply Grew.drew | with_reducible apply Grew.drewN))) | exact Calls.pure_of_g (SY.out _ ⟨_, HZ.out, rfl⟩ _ (by repeat (first | with_reducible exact Grew.refl _ | with_reducible apply Grew.alloc | with_reducible apply Grew.grow | with_reducible apply Grew.drew | with_reducible apply Grew.drewN))) | exact Calls.pure_of_g5 (SY.out _ ⟨_, HZ.out, rfl⟩ _ (by repeat (first | with_reducible exact Grew.refl _ | with_reducible apply Grew.alloc | with_reducible apply Grew.grow | with_reducible apply Grew.drew | with_reducible apply Grew.drewN)))))))
      exact wpQuiet_nil hA.out.symm
    apply wpFlow_quiets [13,14,15,16,17] (by decide +kernel) (by decide +kernel) (by kernel_rfl) (by intro _ _ _ d _ h; cases d <;> exact h) _
    · intro A hA δ'
      simp only [pickOps_cons, pickOps_nil, pick1_zero, pick1_succ]
      repeat (go_big_quiet_step ((fail)))
      exact wpQuiet_nil hA.out.symm
    apply wpFlow_quiets [18] (by decide +kernel) (by decide +kernel) (by kernel_rfl) (by intro _ _ _ d _ h; cases d <;> exact h) _
    · intro A hA δ'
      simp only [pickOps_cons, pickOps_nil, pick1_zero, pick1_succ]
      repeat (go_big_quiet_step ((go_at_call 17; (with_reducible first | exact Calls.pure_of_g3 (C1.out _) | exact Calls.pure_of_g4 (C1.out _) | exact Calls.pure_of_g (C1.out _) | exact Calls.pure_of_g5 (C1.out _)))))
      exact wpQuiet_nil hA.out.symm
    apply wpFlow_quiets [19,20] (by decide +kernel) (by decide +kernel) (by kernel_rfl) (by intro _ _ _ d _ h; cases d <;> exact h) _
    · intro A hA δ'
      simp only [pickOps_cons, pickOps_nil, pick1_zero, pick1_succ]
      repeat (go_big_quiet_step ((fail)))
      exact wpQuiet_nil hA.out.symm
    refine wpFlow_end (by decide +kernel) (by kernel_rfl) ?_
    intro δf
    go_wp2
    have hB0 : (1 : Int) = ((2 ^ 0 : Nat) : Int) := rfl
    clear C1 CC SY HZ hrr rZ zZ
    refine code_abs ?_
    intro V hV
    have gV : Grew w V := by rw [hV]; exact GZ.out.trans (by repeat (first | with_reducible exact Grew.refl _ | with_reducible apply Grew.alloc | with_reducible apply Grew.grow | with_reducible apply Grew.drew | with_reducible apply Grew.drewN))
    have GV := Lib.hid gV
    clear gV hV GZ GY
    go_loopw [13, 14] (fun b j wr => ∃ e : Nat, e ≤ 5 ∧ b = .int .i64 ((2 ^ e : Nat) : Int) ∧ j = .int .i64 e ∧ Grew V wr) (fun b j _ => 5 - (intOf j).toNat)
    case atStart => exact ⟨0, by omega, rfl, rfl, Grew.refl _⟩
    case round =>
      obtain ⟨e, he, rfl, rfl, g⟩ := hrel
      have HG := Lib.hid g
      clear g
      have hp1 : 2 ^ e ≤ 2 ^ 5 := Nat.pow_le_pow_right (by omega) he
      have hp2 : 2 ^ (e + 1) = 2 * 2 ^ e := by rw [Nat.pow_succ]; omega
      have hp3 : e < 5 → 2 ^ e ≤ 2 ^ 4 := fun h => Nat.pow_le_pow_right (by omega) (by omega)
      have hp4 : e = 5 → 2 ^ e = 32 := fun h => by rw [h]
      obtain ⟨B, hB⟩ : ∃ B, 2 ^ e = B := ⟨_, rfl⟩
      rw [hB] at hp1 hp2 hp3 hp4
      have HB := Lib.hid hB
      have HP := Lib.hid hp2
      simp only [hB]
      clear hB hp2
      by_cases hk : (e : Int) < k ∧ e < 5
      · obtain ⟨hk1, hk2⟩ := hk
        have hb1 : (B : Int) < 32 := by have := hp3 hk2; omega
        have hb2 : (2 * (B : Int)) = ((2 ^ (e + 1) : Nat) : Int) := by rw [HP.out]; omega
        have he5 : (e : Int) < 5 := by omega
        have HQ := Lib.hid hb2
        clear hp1 hp3 hp4 hb2 hB0
        go_wp2
        exact ⟨⟨e + 1, by omega, by rw [HQ.out], by go_num, HG.out⟩, by simp only [intOf]; omega⟩
      · have hout : ¬ (e : Int) < k ∨ ((e : Int) < k ∧ ¬ (B : Int) < 32) := by
          by_cases h1 : (e : Int) < k
          · exact .inr ⟨h1, by have := hp4 (by omega); omega⟩
          · exact .inl h1
        clear hk hp3 hp4
        have hbI : (B : Int) ≤ 32 := by omega
        have hb1 : 1 ≤ (B : Int) := by have := Nat.one_le_two_pow (n := e); rw [HB.out] at this; omega
        have cases3 : (N : Int) < B ∨ (¬ (N : Int) < B ∧ 2 * (B : Int) < N) ∨ (¬ (N : Int) < B ∧ ¬ 2 * (B : Int) < N ∧ (N : Int) = B) ∨ (¬ (N : Int) < B ∧ ¬ 2 * (B : Int) < N ∧ ¬ (N : Int) = B) := by omega
        have HG2 := Lib.hid (GV.out.trans HG.out)
        clear hp1 GV HG hB0
        rcases cases3 with c1 | ⟨c1, c2⟩ | ⟨c1, c2, c3⟩ | ⟨c1, c2, c3⟩
        rotate_left 3
        · have hs := HS.out
          have hN := HN.out
          rw [← hN] at hs
          obtain ⟨b, o, rfl, _, hc, hb, hat⟩ := showsI_some hs (by omega)
          rw [hN] at hs hc
          have hh := half_uniq N e (by omega) (by omega) (by rw [HB.out]; omega) (by rw [HB.out]; omega)
          rw [HB.out] at hh
          have hcut := root_cut l (by omega) (by omega)
          rw [hN, ← hh] at hcut
          have p1 : ShowsI w (.slice (some ⟨b, o, none⟩) B c) (l.take B) := by
            have := showsI_part (o := o) hb hat 0 B c (by omega) (by omega)
            simpa using this
          have p2 : ShowsI w (.slice (some ⟨b, o + B * 32, none⟩) (N - B) (c - B)) (l.drop B) := by
            have := showsI_part (o := o) hb hat B (N - B) (c - B) (by omega) (by omega)
            rwa [List.take_of_length_le (by rw [List.length_drop]; omega)] at this
          have K0 := Lib.hid (prefix_calls l _ w (by omega) hs)
          have K1 := Lib.hid (prefix_calls _ _ w (by rw [List.length_take]; omega) p1)
          have K2 := Lib.hid (prefix_calls _ _ w (by rw [List.length_drop]; omega) p2)
          have hx1 := (root (l.take B)).len
          have hx2 := (root (l.drop B)).len
          have hx0 := (root l).len
          obtain ⟨ra, hA⟩ : ∃ A, root (l.take B) = A := ⟨_, rfl⟩
          obtain ⟨rb, hB⟩ : ∃ A, root (l.drop B) = A := ⟨_, rfl⟩
          obtain ⟨rc, hC⟩ : ∃ A, root l = A := ⟨_, rfl⟩
          rw [hA] at K1 hcut hx1
          rw [hB] at K2 hcut hx2
          rw [hC] at K0 hcut hx0
          have hnl := (ra.node rb).len
          have heq : ieq rc.l (ra.node rb).l = true := decide_eq_true (by rw [hcut])
          have k1 : (B : Int) ≤ (c : Int) := by omega
          have k2 : (B : Int) ≤ (N : Int) := by omega
          have k3 : ¬ c = B := by omega
          clear hs hN hc hb hat hh hcut p1 p2 hA hB hC HB HP HN HS
          refine code_abs ?_
          intro Y hY
          have GY := Lib.hid (show Grew w Y by rw [hY]; exact HG2.out)
          clear hY HG2
          rcases hout with hout | ⟨ho1, ho2⟩
          rotate_left
          · exfalso; omega
          · go_wp2
            refine wp_region_flow (by kernel_rfl) ?_
            intro δf
            apply wpFlow_quiets [0] (by decide +kernel) (by decide +kernel) (by kernel_rfl) (by intro _ _ _ d _ h; cases d <;> exact h) _
            · intro A hA δ'
              simp only [pickOps_cons, pickOps_nil, pick1_zero, pick1_succ]
              repeat (go_big_quiet_step ((fail)))
              exact wpQuiet_nil hA.out.symm
            apply wpFlow_quiets [1] (by decide +kernel) (by decide +kernel) (by kernel_rfl) (by intro _ _ _ d _ h; cases d <;> exact h) _
            · intro A hA δ'
              simp only [pickOps_cons, pickOps_nil, pick1_zero, pick1_succ]
              repeat (go_big_quiet_step ((go_at_call 13; (with_reducible first | exact Calls.pure_of_g3 (K0.out _ (GY.out.trans (by repeat (first | with_reducible exact Grew.refl _ | with_reducible apply Grew.alloc | with_reducible apply Grew.grow | with_reducible apply Grew.drew | with_reducible apply Grew.drewN)))) | exact Calls.pure_of_g4 (K0.out _ (GY.out.trans (by repeat (first | with_reducible exact Grew.refl _ | with_reducible apply Grew.alloc | with_reducible apply Grew.grow | with_reducible apply Grew.drew | with_reducible apply Grew.drewN)))) | exact Calls.pure_of_g (K0.out _ (GY.out.trans (by repeat (first | with_reducible exact Grew.refl _ | with_reducible apply Grew.alloc | with_reducible apply Grew.grow | with_reducible apply Grew.drew | with_reducible apply Grew.drewN)))) | exact Calls.pure_of_g5 (K0.out _ (GY.out.trans (by repeat (first | with_reducible exact Grew.refl _ | with_reducible apply Grew.alloc | with_reducible apply Grew.grow | with_reducible apply Grew.drew | with_reducible apply Grew.drewN))))))))
              exact wpQuiet_nil hA.out.symm
            apply wpFlow_quiets [2,3,4] (by decide +kernel) (by decide +kernel) (by kernel_rfl) (by intro _ _ _ d _ h; cases d <;> exact h) _
            · intro A hA δ'
              simp only [pickOps_cons, pickOps_nil, pick1_zero, pick1_succ]
              repeat (go_big_quiet_step ((fail)))
              exact wpQuiet_nil hA.out.symm
            apply wpFlow_quiets [5] (by decide +kernel) (by decide +kernel) (by kernel_rfl) (by intro _ _ _ d _ h; cases d <;> exact h) _
            · intro A hA δ'
              simp only [pickOps_cons, pickOps_nil, pick1_zero, pick1_succ]
              repeat (go_big_quiet_step ((go_at_call 13; (with_reducible first | exact Calls.pure_of_g3 (K1.out _ (GY.out.trans (by repeat (first | with_reducible exact Grew.refl _ | with_reducible apply Grew.alloc | with_reducible apply Grew.grow | with_reducible apply Grew.drew | with_reducible apply Grew.drewN)))) | exact Calls.pure_of_g4 (K1.out _ (GY.out.trans (by repeat (first | with_reducible exact Grew.refl _ | with_reducible apply Grew.alloc | with_reducible apply Grew.grow | with_reducible apply Grew.drew | with_reducible apply Grew.drewN)))) | exact Calls.pure_of_g (K1.out _ (GY.out.trans (by repeat (first | with_reducible exact Grew.refl _ | with_reducible apply Grew.alloc | with_reducible apply Grew.grow | with_reducible apply Grew.drew | with_reducible apply Grew.drewN)))) | exact Calls.pure_of_g5 (K1.out _ (GY.out.trans (by repeat (first | with_reducible exact Grew.refl _ | with_reducible apply Grew.alloc | with_reducible apply Grew.grow | with_reducible apply Grew.drew | with_reducible apply Grew.drewN))))))))
              exact wpQuiet_nil hA.out.symm
            apply wpFlow_quiets [6,7,8] (by decide +kernel) (by decide +kernel) (by kernel_rfl) (by intro _ _ _ d _ h; cases d <;> exact h) _
            · intro A hA δ'
              simp only [pickOps_cons, pickOps_nil, pick1_zero, pick1_succ]
              repeat (go_big_quiet_step ((fail)))
              exact wpQuiet_nil hA.out.symm
            apply wpFlow_quiets [9] (by decide +kernel) (by decide +kernel) (by kernel_rfl) (by intro _ _ _ d _ h; cases d <;> exact h) _
            · intro A hA δ'
              simp only [pickOps_cons, pickOps_nil, pick1_zero, pick1_succ]
              repeat (go_big_quiet_step ((go_at_call 13; (with_reducible first | exact Calls.pure_of_g3 (K2.out _ (GY.out.trans (by repeat (first | with_reducible exact Grew.refl _ | with_reducible apply Grew.alloc | with_reducible apply Grew.grow | with_reducible apply Grew.drew | with_reducible apply Grew.drewN)))) | exact Calls.pure_of_g4 (K2.out _ (GY.out.trans (by repeat (first | with_reducible exact Grew.refl _ | with_reducible apply Grew.alloc | with_reducible apply Grew.grow | with_reducible apply Grew.drew | with_reducible apply Grew.drewN)))) | exact Calls.pure_of_g (K2.out _ (GY.out.trans (by repeat (first | with_reducible exact Grew.refl _ | with_reducible apply Grew.alloc | with_reducible apply Grew.grow | with_reducible apply Grew.drew | with_reducible apply Grew.drewN)))) | exact Calls.pure_of_g5 (K2.out _ (GY.out.trans (by repeat (first | with_reducible exact Grew.refl _ | with_reducible apply Grew.alloc | with_reducible apply Grew.grow | with_reducible apply Grew.drew | with_reducible apply Grew.drewN))))))))
              exact wpQuiet_nil hA.out.symm
            apply wpFlow_quiets [10] (by decide +kernel) (by decide +kernel) (by kernel_rfl) (by intro _ _ _ d _ h; cases d <;> exact h) _
            · intro A hA δ'
              simp only [pickOps_cons, pickOps_nil, pick1_zero, pick1_succ]
              repeat (go_big_quiet_step ((go_at_call 19; (with_reducible first | exact Calls.pure_of_g3 (node_w ra rb _) | exact Calls.pure_of_g4 (node_w ra rb _) | exact Calls.pure_of_g (node_w ra rb _) | exact Calls.pure_of_g5 (node_w ra rb _)))))
              exact wpQuiet_nil hA.out.symm
            apply wpFlow_quiets [11,12] (by decide +kernel) (by decide +kernel) (by kernel_rfl) (by intro _ _ _ d _ h; cases d <;> exact h) _
            · intro A hA δ'
              simp only [pickOps_cons, pickOps_nil, pick1_zero, pick1_succ]
              repeat (go_big_quiet_step ((fail)))
              exact wpQuiet_nil hA.out.symm
            refine wpFlow_end (by decide +kernel) (by kernel_rfl) ?_
            intro δf
            go_wp2
            go_ret
            exact ⟨rfl, GY.out.trans (by repeat (first | with_reducible exact Grew.refl _ | with_reducible apply Grew.alloc | with_reducible apply Grew.grow | with_reducible apply Grew.drew | with_reducible apply Grew.drewN))⟩
        all_goals
          rcases hout with hout | ⟨ho1, ho2⟩
          all_goals
            clear HP
            go_wp2
            go_ret
            exact ⟨rfl, HG2.out⟩
end Go.Proofs.Ytleaemeihljlnaa
/- The walk of TreeTells. -/
namespace Go.Proofs.Ytleaemeihljlnaa
set_option linter.unusedVariables false
set_option linter.unusedSimpArgs false
open Go.RowKit
set_option maxRecDepth 100000 in
set_option maxHeartbeats 6400000 in
theorem treeTells_walk (q : Option Addr) (c : Nat) (l : List Idb) (hm : l.length ≤ maxLen) (i n : Int) (q1 : Option Addr) (c1 : Nat) (l1 : List Idb) (hm1 : l1.length ≤ maxLen) (q2 : Option Addr) (c2 : Nat) (l2 : List Nat) (hb2 : ∀ x ∈ l2, x < 256) (hm2 : l2.length ≤ maxLen) (w : World)
    (hs : ShowsI w (.slice q l.length c) l) (hs1 : ShowsI w (.slice q1 l1.length c1) l1) (hs2 : Shows w (.slice q2 l2.length c2) (bys l2)) :
    Calls Try.prog 3 #[.slice q l.length c, .int .i64 i, .int .i64 n, .slice q1 l1.length c1, .slice q2 l2.length c2] w fun e w' => e = .returned (.bool true) ∧ Grew w w' := by
  have HS := Lib.hid hs
  have HS1 := Lib.hid hs1
  have HS2 := Lib.hid hs2
  have HB := Lib.hid hb2
  clear hs hm hs1 hm1 hs2 hm2 hb2
  obtain ⟨N, hN⟩ : ∃ N, l.length = N := ⟨_, rfl⟩
  have HN := Lib.hid hN
  rw [hN] at HS ⊢
  obtain ⟨M, hM⟩ : ∃ N, l1.length = N := ⟨_, rfl⟩
  have HM := Lib.hid hM
  rw [hM] at HS1 ⊢
  obtain ⟨K, hK⟩ : ∃ N, l2.length = N := ⟨_, rfl⟩
  have HK := Lib.hid hK
  rw [hK] at HS2 ⊢
  clear hN hM hK
  by_cases h4 : ¬ (¬ 70 < (N : Int) ∧ ¬ 12 < (M : Int) ∧ ¬ 200 < (K : Int))
  · have h5 : 70 < (N : Int) ∨ (¬ 70 < (N : Int) ∧ 12 < (M : Int)) ∨ (¬ 70 < (N : Int) ∧ ¬ 12 < (M : Int) ∧ 200 < (K : Int)) := by omega
    clear h4
    rcases h5 with h1 | ⟨h1, h2⟩ | ⟨h1, h2, h3⟩
    all_goals
      go_enter Try.func3, Try.ntmps3
      go_wp2_with (go_at_call 9; refine (awake_w _).mono ?_; rintro e w' ⟨rfl, δ, rfl⟩)
      go_ret
      exact ⟨rfl, (by repeat (first | with_reducible exact Grew.refl _ | with_reducible apply Grew.alloc | with_reducible apply Grew.grow | with_reducible apply Grew.drew | with_reducible apply Grew.drewN))⟩
  obtain ⟨h1, h2, h3⟩ : ¬ 70 < (N : Int) ∧ ¬ 12 < (M : Int) ∧ ¬ 200 < (K : Int) := by omega
  clear h4
  have CP := Lib.hid (fun W (g : Grew w W) => path_w l i (.slice q N c) W (HS.out.grew g))
  have CQ := Lib.hid (fun W (g : Grew w W) => rPath_w l i (.slice q N c) W (HS.out.grew g))
  have hpl : (pathOf l i).length ≤ 1000 := by
    unfold pathOf
    split
    · rename_i h
      have h := of_decide_eq_true h
      have := side_len l.length i.toNat (by omega) (by omega)
      rw [path_len l _ (by omega)]
      omega
    · simp
  obtain ⟨ok, hok⟩ : ∃ ok, pathOk l i = ok := ⟨_, rfl⟩
  obtain ⟨ps, hps⟩ : ∃ ps, pathOf l i = ps := ⟨_, rfl⟩
  rw [hps] at hpl
  rw [hok, hps] at CP CQ
  have CR := Lib.hid (prefix_calls l _ w (by rw [HN.out]; omega) HS.out)
  have CS : Hid (∀ W, Grew w W → Calls Try.prog 14 #[.slice q N c] W fun e w' => e = .returned (.agg (iv (root l).l)) ∧ Grew W w') := Lib.hid (fun W g => rroot_w _ l _ W (Nat.le_refl _) (by rw [HN.out]; omega) (HS.out.grew g))
  have CL := Lib.hid (fun W (g : Grew w W) => leaf_w l2 (.slice q2 K c2) W (by rw [HK.out]; omega) HB.out (HS2.out.grew g))
  have CM := Lib.hid (fun W (g : Grew w W) => rleaf_w l2 (.slice q2 K c2) W (by rw [HK.out]; omega) HB.out (HS2.out.grew g))
  have hrl := (root l).len
  have hll := (Idb.leaf l2).len
  obtain ⟨R, hR⟩ : ∃ R, root l = R := ⟨_, rfl⟩
  obtain ⟨L, hL⟩ : ∃ R, Idb.leaf l2 = R := ⟨_, rfl⟩
  rw [hR] at CR CS hrl
  rw [hL] at CL CM hll
  have e1 : ieq R.l R.l = true := decide_eq_true rfl
  have e2 : ieq L.l L.l = true := decide_eq_true rfl
  have e3 : (ok != ok) = false := by cases ok <;> rfl
  have HPL := Lib.hid hpl
  clear hok hps hR hL
  go_enter Try.func3, Try.ntmps3
  go_wp2_with (first | (go_at_call 9; refine (awake_w _).mono ?_; rintro e w' ⟨rfl, δ, rfl⟩) | (go_at_call 10; refine stop_of ?_))
  unfold Stop
  refine (CP.out _ (by repeat (first | with_reducible exact Grew.refl _ | with_reducible apply Grew.alloc | with_reducible apply Grew.grow | with_reducible apply Grew.drew | with_reducible apply Grew.drewN))).mono ?_
  rintro e W1 ⟨v1, rfl, ho, hg⟩
  have g1 : Grew w W1 := (show Grew w _ from (by repeat (first | with_reducible exact Grew.refl _ | with_reducible apply Grew.alloc | with_reducible apply Grew.grow | with_reducible apply Grew.drew | with_reducible apply Grew.drewN))).trans hg
  have G1 := Lib.hid g1
  have PS := Lib.hid (ho.shows Idb.cs_len)
  clear ho hg g1 CP
  go_wp2_with (go_at_call 11; refine stop_of ?_)
  unfold Stop
  refine (CQ.out _ (G1.out.trans (by repeat (first | with_reducible exact Grew.refl _ | with_reducible apply Grew.alloc | with_reducible apply Grew.grow | with_reducible apply Grew.drew | with_reducible apply Grew.drewN)))).mono ?_
  rintro e W2 ⟨v2, rfl, ho, hg⟩
  have g2 : Grew W1 W2 := (show Grew W1 _ from (by repeat (first | with_reducible exact Grew.refl _ | with_reducible apply Grew.alloc | with_reducible apply Grew.grow | with_reducible apply Grew.drew | with_reducible apply Grew.drewN))).trans hg
  have P1 := Lib.hid (PS.out.grew g2)
  have P2 := Lib.hid (ho.shows Idb.cs_len)
  have G2 := Lib.hid (G1.out.trans g2)
  clear ho hg g2 CQ G1 PS
  go_wp2_with (first | (go_at_call 12; refine (ids_w ps v1 v2 _ (by omega) (P1.out.grew (by repeat (first | with_reducible exact Grew.refl _ | with_reducible apply Grew.alloc | with_reducible apply Grew.grow | with_reducible apply Grew.drew | with_reducible apply Grew.drewN))) (P2.out.grew (by repeat (first | with_reducible exact Grew.refl _ | with_reducible apply Grew.alloc | with_reducible apply Grew.grow | with_reducible apply Grew.drew | with_reducible apply Grew.drewN)))).mono ?_; rintro e w' ⟨rfl, δ', rfl⟩) | (go_at_call 13; refine (CR.out _ (G2.out.trans (by repeat (first | with_reducible exact Grew.refl _ | with_reducible apply Grew.alloc | with_reducible apply Grew.grow | with_reducible apply Grew.drew | with_reducible apply Grew.drewN)))).mono ?_; rintro e w' ⟨rfl, δ'', rfl⟩))
  refine code_abs ?_
  intro V hV
  generalize ({ objs := δ'.objs ++ δ''.objs, drawn := δ''.drawn } : Junk) = δc at hV ⊢
  have gV : Grew W2 V := by rw [hV]; exact (by repeat (first | with_reducible exact Grew.refl _ | with_reducible apply Grew.alloc | with_reducible apply Grew.grow | with_reducible apply Grew.drew | with_reducible apply Grew.drewN))
  have r17 : V.rowAt (W2.heap.size + δc.n) = iv R.l := by rw [hV]; simp [go_sem]
  have z17 : W2.heap.size + δc.n < V.heap.size := by rw [hV]; simp
  have GV := Lib.hid (G2.out.trans gV)
  have P1 := Lib.hid (P1.out.grew gV)
  have P2 := Lib.hid (P2.out.grew gV)
  obtain ⟨g17, hg⟩ : ∃ g, W2.heap.size + δc.n = g := ⟨_, rfl⟩
  rw [hg] at r17 z17 ⊢
  clear hV gV G2 hg hpl CR
  refine wp_region_flow (by kernel_rfl) ?_
  intro δf
  apply wpFlow_quiets [0,1] (by decide +kernel) (by decide +kernel) (by kernel_rfl) (by intro _ _ _ d _ h; cases d <;> exact h) _
  · intro A hA δ'
    simp only [pickOps_cons, pickOps_nil, pick1_zero, pick1_succ]
    repeat (go_big_quiet_step ((fail)))
    exact wpQuiet_nil hA.out.symm
  apply wpFlow_quiets [2] (by decide +kernel) (by decide +kernel) (by kernel_rfl) (by intro _ _ _ d _ h; cases d <;> exact h) _
  · intro A hA δ'
    simp only [pickOps_cons, pickOps_nil, pick1_zero, pick1_succ]
    repeat (go_big_quiet_step ((go_at_call 14; (with_reducible first | exact Calls.pure_of_g3 (CS.out _ (GV.out.trans (by repeat (first | with_reducible exact Grew.refl _ | with_reducible apply Grew.alloc | with_reducible apply Grew.grow | with_reducible apply Grew.drew | with_reducible apply Grew.drewN)))) | exact Calls.pure_of_g4 (CS.out _ (GV.out.trans (by repeat (first | with_reducible exact Grew.refl _ | with_reducible apply Grew.alloc | with_reducible apply Grew.grow | with_reducible apply Grew.drew | with_reducible apply Grew.drewN)))) | exact Calls.pure_of_g (CS.out _ (GV.out.trans (by repeat (first | with_reducible exact Grew.refl _ | with_reducible apply Grew.alloc | with_reducible apply Grew.grow | with_reducible apply Grew.drew | with_reducible apply Grew.drewN)))) | exact Calls.pure_of_g5 (CS.out _ (GV.out.trans (by repeat (first | with_reducible exact Grew.refl _ | with_reducible apply Grew.alloc | with_reducible apply Grew.grow | with_reducible apply Grew.drew | with_reducible apply Grew.drewN))))))))
    exact wpQuiet_nil hA.out.symm
  apply wpFlow_quiets [3,4,5,6,7,8,9,10,11,12,13,14] (by decide +kernel) (by decide +kernel) (by kernel_rfl) (by intro _ _ _ d _ h; cases d <;> exact h) _
  · intro A hA δ'
    simp only [pickOps_cons, pickOps_nil, pick1_zero, pick1_succ]
    repeat (go_big_quiet_step ((fail)))
    exact wpQuiet_nil hA.out.symm
  apply wpFlow_quiets [15] (by decide +kernel) (by decide +kernel) (by kernel_rfl) (by intro _ _ _ d _ h; cases d <;> exact h) _
  · intro A hA δ'
    simp only [pickOps_cons, pickOps_nil, pick1_zero, pick1_succ]
    repeat (go_big_quiet_step ((go_at_call 15; (with_reducible first | exact Calls.pure_of_g3 (CL.out _ (GV.out.trans (by repeat (first | with_reducible exact Grew.refl _ | with_reducible apply Grew.alloc | with_reducible apply Grew.grow | with_reducible apply Grew.drew | with_reducible apply Grew.drewN)))) | exact Calls.pure_of_g4 (CL.out _ (GV.out.trans (by repeat (first | with_reducible exact Grew.refl _ | with_reducible apply Grew.alloc | with_reducible apply Grew.grow | with_reducible apply Grew.drew | with_reducible apply Grew.drewN)))) | exact Calls.pure_of_g (CL.out _ (GV.out.trans (by repeat (first | with_reducible exact Grew.refl _ | with_reducible apply Grew.alloc | with_reducible apply Grew.grow | with_reducible apply Grew.drew | with_reducible apply Grew.drewN)))) | exact Calls.pure_of_g5 (CL.out _ (GV.out.trans (by repeat (first | with_reducible exact Grew.refl _ | with_reducible apply Grew.alloc | with_reducible apply Grew.grow | with_reducible apply Grew.drew | with_reducible apply Grew.drewN))))))))
    exact wpQuiet_nil hA.out.symm
  apply wpFlow_quiets [16] (by decide +kernel) (by decide +kernel) (by kernel_rfl) (by intro _ _ _ d _ h; cases d <;> exact h) _
  · intro A hA δ'
    simp only [pickOps_cons, pickOps_nil, pick1_zero, pick1_succ]
    repeat (go_big_quiet_step ((fail)))
    exact wpQuiet_nil hA.out.symm
  apply wpFlow_quiets [17] (by decide +kernel) (by decide +kernel) (by kernel_rfl) (by intro _ _ _ d _ h; cases d <;> exact h) _
  · intro A hA δ'
    simp only [pickOps_cons, pickOps_nil, pick1_zero, pick1_succ]
    repeat (go_big_quiet_step ((go_at_call 16; (with_reducible first | exact Calls.pure_of_g3 (CM.out _ (GV.out.trans (by repeat (first | with_reducible exact Grew.refl _ | with_reducible apply Grew.alloc | with_reducible apply Grew.grow | with_reducible apply Grew.drew | with_reducible apply Grew.drewN)))) | exact Calls.pure_of_g4 (CM.out _ (GV.out.trans (by repeat (first | with_reducible exact Grew.refl _ | with_reducible apply Grew.alloc | with_reducible apply Grew.grow | with_reducible apply Grew.drew | with_reducible apply Grew.drewN)))) | exact Calls.pure_of_g (CM.out _ (GV.out.trans (by repeat (first | with_reducible exact Grew.refl _ | with_reducible apply Grew.alloc | with_reducible apply Grew.grow | with_reducible apply Grew.drew | with_reducible apply Grew.drewN)))) | exact Calls.pure_of_g5 (CM.out _ (GV.out.trans (by repeat (first | with_reducible exact Grew.refl _ | with_reducible apply Grew.alloc | with_reducible apply Grew.grow | with_reducible apply Grew.drew | with_reducible apply Grew.drewN))))))))
    exact wpQuiet_nil hA.out.symm
  apply wpFlow_quiets [18,19] (by decide +kernel) (by decide +kernel) (by kernel_rfl) (by intro _ _ _ d _ h; cases d <;> exact h) _
  · intro A hA δ'
    simp only [pickOps_cons, pickOps_nil, pick1_zero, pick1_succ]
    repeat (go_big_quiet_step ((fail)))
    exact wpQuiet_nil hA.out.symm
  refine wpFlow_end (by decide +kernel) (by kernel_rfl) ?_
  intro δf
  clear CS CL CM e3 e2 hll HB HS2 HK
  by_cases hN0 : N = 0
  · have hd : ((N : Int) == 0) = true := by simp; omega
    go_wp2
    go_ret
    exact ⟨rfl, GV.out.trans (by repeat (first | with_reducible exact Grew.refl _ | with_reducible apply Grew.alloc | with_reducible apply Grew.grow | with_reducible apply Grew.drew | with_reducible apply Grew.drewN))⟩
  · have hd : ((N : Int) == 0) = false := by simp; omega
    have hhs := HS.out
    rw [← HN.out] at hhs
    obtain ⟨b, o, rfl, _, hcc, hb, hat⟩ := showsI_some hhs (by have := HN.out; omega)
    obtain ⟨x, hx⟩ : ∃ x, l[N - 1]? = some x := ⟨_, List.getElem?_eq_getElem (by have := HN.out; omega)⟩
    obtain ⟨y, hy⟩ : ∃ y, l[0]? = some y := ⟨_, List.getElem?_eq_getElem (by have := HN.out; omega)⟩
    have hxl := x.len
    have hyl := y.len
    have ql : ∀ W, Grew w W → ∀ δ, (rowLoad 29 (.pointer (some ⟨b, o + (N - 1) * 32, none⟩))).run Try.prog (W.grow δ) = .ok (.value (.agg (iv x.l))) (W.grow δ) := fun W g δ => load_idm (World.rangeAt.grew (hat (N - 1) x hx) (g.trans ⟨δ, rfl⟩))
    have qf : ∀ W, Grew w W → ∀ δ, (rowLoad 29 (.pointer (some ⟨b, o, none⟩))).run Try.prog (W.grow δ) = .ok (.value (.agg (iv y.l))) (W.grow δ) := fun W g δ => load_idm (World.rangeAt.grew (by have := hat 0 y hy; rwa [Nat.zero_mul, Nat.add_zero] at this) (g.trans ⟨δ, rfl⟩))
    have q1 := ql V GV.out
    have QL := Lib.hid qf
    have hN1 : (N : Int) - 1 = ((N - 1 : Nat) : Int) := by omega
    clear hhs hat hx hy hcc ql qf
    go_wp2
    refine code_abs ?_
    intro Z hZ
    generalize ({ objs := _, drawn := δf.drawn } : Junk) = δc2 at hZ ⊢
    have gZ : Grew V Z := by rw [hZ]; exact (by repeat (first | with_reducible exact Grew.refl _ | with_reducible apply Grew.alloc | with_reducible apply Grew.grow | with_reducible apply Grew.drew | with_reducible apply Grew.drewN))
    have r18 : Z.rowAt (V.heap.size + δc2.n) = iv x.l := by rw [hZ]; simp [go_sem]
    have z18 : V.heap.size + δc2.n < Z.heap.size := by rw [hZ]; simp
    have s17 : Z.rowAt g17 = iv R.l := by rw [Grew.rowAt gZ _ z17]; exact r17
    have y17 : g17 < Z.heap.size := Nat.lt_of_lt_of_le z17 gZ.size
    have GZ := Lib.hid (GV.out.trans gZ)
    have P3 := Lib.hid (P2.out.grew gZ)
    have q2' := QL.out Z GZ.out
    obtain ⟨g18, hg⟩ : ∃ g, V.heap.size + δc2.n = g := ⟨_, rfl⟩
    rw [hg] at r18 z18 ⊢
    have hpl : ps.length ≤ 1000 := HPL.out
    obtain ⟨B, hB⟩ : ∃ B, chk R n i x l1 = B := ⟨_, rfl⟩
    obtain ⟨D, hD⟩ : ∃ B, chk R (N : Nat) i x ps = B := ⟨_, rfl⟩
    have C1 := Lib.hid (fun W (g : Grew w W) => check_w R n i x l1 _ W (HS1.out.grew g) (by rw [HM.out]; omega))
    have C2 := Lib.hid (fun W (g : Grew w W) => rcheck_w R n i x l1 _ W (HS1.out.grew g) (by rw [HM.out]; omega))
    have C3 := Lib.hid (fun W (g : Grew Z W) => check_w R N i x ps v2 W (P3.out.grew g) (by omega))
    have C4 := Lib.hid (fun W (g : Grew Z W) => rcheck_w R N i x ps v2 W (P3.out.grew g) (by omega))
    rw [hB] at C1 C2
    rw [hD] at C3 C4
    have hBB : (B == B) = true := by cases B <;> rfl
    have hDD : (D == D) = true := by cases D <;> rfl
    have hnl := (y.node x).len
    have e5 : ieq (y.node x).l (y.node x).l = true := decide_eq_true rfl
    clear hZ gZ GV QL hg P1 P2 r17 z17 q1 hB hD
    refine wp_region_flow (by kernel_rfl) ?_
    intro δf
    apply wpFlow_quiets [0,1,2,3,4] (by decide +kernel) (by decide +kernel) (by kernel_rfl) (by intro _ _ _ d _ h; cases d <;> exact h) _
    · intro A hA δ'
      simp only [pickOps_cons, pickOps_nil, pick1_zero, pick1_succ]
      repeat (go_big_quiet_step ((fail)))
      exact wpQuiet_nil hA.out.symm
    apply wpFlow_quiets [5] (by decide +kernel) (by decide +kernel) (by kernel_rfl) (by intro _ _ _ d _ h; cases d <;> exact h) _
    · intro A hA δ'
      simp only [pickOps_cons, pickOps_nil, pick1_zero, pick1_succ]
      repeat (go_big_quiet_step ((go_at_call 17; (with_reducible first | exact Calls.pure_of_g3 (C1.out _ (GZ.out.trans (by repeat (first | with_reducible exact Grew.refl _ | with_reducible apply Grew.alloc | with_reducible apply Grew.grow | with_reducible apply Grew.drew | with_reducible apply Grew.drewN)))) | exact Calls.pure_of_g4 (C1.out _ (GZ.out.trans (by repeat (first | with_reducible exact Grew.refl _ | with_reducible apply Grew.alloc | with_reducible apply Grew.grow | with_reducible apply Grew.drew | with_reducible apply Grew.drewN)))) | exact Calls.pure_of_g (C1.out _ (GZ.out.trans (by repeat (first | with_reducible exact Grew.refl _ | with_reducible apply Grew.alloc | with_reducible apply Grew.grow | with_reducible apply Grew.drew | with_reducible apply Grew.drewN)))) | exact Calls.pure_of_g5 (C1.out _ (GZ.out.trans (by repeat (first | with_reducible exact Grew.refl _ | with_reducible apply Grew.alloc | with_reducible apply Grew.grow | with_reducible apply Grew.drew | with_reducible apply Grew.drewN))))))))
      exact wpQuiet_nil hA.out.symm
    apply wpFlow_quiets [6,7,8,9,10] (by decide +kernel) (by decide +kernel) (by kernel_rfl) (by intro _ _ _ d _ h; cases d <;> exact h) _
    · intro A hA δ'
      simp only [pickOps_cons, pickOps_nil, pick1_zero, pick1_succ]
      repeat (go_big_quiet_step ((fail)))
      exact wpQuiet_nil hA.out.symm
    apply wpFlow_quiets [11] (by decide +kernel) (by decide +kernel) (by kernel_rfl) (by intro _ _ _ d _ h; cases d <;> exact h) _
    · intro A hA δ'
      simp only [pickOps_cons, pickOps_nil, pick1_zero, pick1_succ]
      repeat (go_big_quiet_step ((go_at_call 18; (with_reducible first | exact Calls.pure_of_g3 (C2.out _ (GZ.out.trans (by repeat (first | with_reducible exact Grew.refl _ | with_reducible apply Grew.alloc | with_reducible apply Grew.grow | with_reducible apply Grew.drew | with_reducible apply Grew.drewN)))) | exact Calls.pure_of_g4 (C2.out _ (GZ.out.trans (by repeat (first | with_reducible exact Grew.refl _ | with_reducible apply Grew.alloc | with_reducible apply Grew.grow | with_reducible apply Grew.drew | with_reducible apply Grew.drewN)))) | exact Calls.pure_of_g (C2.out _ (GZ.out.trans (by repeat (first | with_reducible exact Grew.refl _ | with_reducible apply Grew.alloc | with_reducible apply Grew.grow | with_reducible apply Grew.drew | with_reducible apply Grew.drewN)))) | exact Calls.pure_of_g5 (C2.out _ (GZ.out.trans (by repeat (first | with_reducible exact Grew.refl _ | with_reducible apply Grew.alloc | with_reducible apply Grew.grow | with_reducible apply Grew.drew | with_reducible apply Grew.drewN))))))))
      exact wpQuiet_nil hA.out.symm
    apply wpFlow_quiets [12,13] (by decide +kernel) (by decide +kernel) (by kernel_rfl) (by intro _ _ _ d _ h; cases d <;> exact h) _
    · intro A hA δ'
      simp only [pickOps_cons, pickOps_nil, pick1_zero, pick1_succ]
      repeat (go_big_quiet_step ((fail)))
      exact wpQuiet_nil hA.out.symm
    refine wpFlow_end (by decide +kernel) (by kernel_rfl) ?_
    intro δf
    clear C1 C2 hBB
    go_wp2
    refine wp_region_flow (by kernel_rfl) ?_
    intro δf
    apply wpFlow_quiets [0,1,2,3,4,5] (by decide +kernel) (by decide +kernel) (by kernel_rfl) (by intro _ _ _ d _ h; cases d <;> exact h) _
    · intro A hA δ'
      simp only [pickOps_cons, pickOps_nil, pick1_zero, pick1_succ]
      repeat (go_big_quiet_step ((fail)))
      exact wpQuiet_nil hA.out.symm
    apply wpFlow_quiets [6] (by decide +kernel) (by decide +kernel) (by kernel_rfl) (by intro _ _ _ d _ h; cases d <;> exact h) _
    · intro A hA δ'
      simp only [pickOps_cons, pickOps_nil, pick1_zero, pick1_succ]
      repeat (go_big_quiet_step ((go_at_call 19; (with_reducible first | exact Calls.pure_of_g3 (node_w y x _) | exact Calls.pure_of_g4 (node_w y x _) | exact Calls.pure_of_g (node_w y x _) | exact Calls.pure_of_g5 (node_w y x _)))))
      exact wpQuiet_nil hA.out.symm
    apply wpFlow_quiets [7,8,9,10] (by decide +kernel) (by decide +kernel) (by kernel_rfl) (by intro _ _ _ d _ h; cases d <;> exact h) _
    · intro A hA δ'
      simp only [pickOps_cons, pickOps_nil, pick1_zero, pick1_succ]
      repeat (go_big_quiet_step ((fail)))
      exact wpQuiet_nil hA.out.symm
    apply wpFlow_quiets [11] (by decide +kernel) (by decide +kernel) (by kernel_rfl) (by intro _ _ _ d _ h; cases d <;> exact h) _
    · intro A hA δ'
      simp only [pickOps_cons, pickOps_nil, pick1_zero, pick1_succ]
      repeat (go_big_quiet_step ((go_at_call 20; (with_reducible first | exact Calls.pure_of_g3 (rnode_w y x _) | exact Calls.pure_of_g4 (rnode_w y x _) | exact Calls.pure_of_g (rnode_w y x _) | exact Calls.pure_of_g5 (rnode_w y x _)))))
      exact wpQuiet_nil hA.out.symm
    apply wpFlow_quiets [12,13,14,15,16,17,18,19,20] (by decide +kernel) (by decide +kernel) (by kernel_rfl) (by intro _ _ _ d _ h; cases d <;> exact h) _
    · intro A hA δ'
      simp only [pickOps_cons, pickOps_nil, pick1_zero, pick1_succ]
      repeat (go_big_quiet_step ((fail)))
      exact wpQuiet_nil hA.out.symm
    apply wpFlow_quiets [21] (by decide +kernel) (by decide +kernel) (by kernel_rfl) (by intro _ _ _ d _ h; cases d <;> exact h) _
    · intro A hA δ'
      simp only [pickOps_cons, pickOps_nil, pick1_zero, pick1_succ]
      repeat (go_big_quiet_step ((go_at_call 17; (with_reducible first | exact Calls.pure_of_g3 (C3.out _ (by repeat (first | with_reducible exact Grew.refl _ | with_reducible apply Grew.alloc | with_reducible apply Grew.grow | with_reducible apply Grew.drew | with_reducible apply Grew.drewN))) | exact Calls.pure_of_g4 (C3.out _ (by repeat (first | with_reducible exact Grew.refl _ | with_reducible apply Grew.alloc | with_reducible apply Grew.grow | with_reducible apply Grew.drew | with_reducible apply Grew.drewN))) | exact Calls.pure_of_g (C3.out _ (by repeat (first | with_reducible exact Grew.refl _ | with_reducible apply Grew.alloc | with_reducible apply Grew.grow | with_reducible apply Grew.drew | with_reducible apply Grew.drewN))) | exact Calls.pure_of_g5 (C3.out _ (by repeat (first | with_reducible exact Grew.refl _ | with_reducible apply Grew.alloc | with_reducible apply Grew.grow | with_reducible apply Grew.drew | with_reducible apply Grew.drewN)))))))
      exact wpQuiet_nil hA.out.symm
    apply wpFlow_quiets [22,23,24,25,26,27] (by decide +kernel) (by decide +kernel) (by kernel_rfl) (by intro _ _ _ d _ h; cases d <;> exact h) _
    · intro A hA δ'
      simp only [pickOps_cons, pickOps_nil, pick1_zero, pick1_succ]
      repeat (go_big_quiet_step ((fail)))
      exact wpQuiet_nil hA.out.symm
    apply wpFlow_quiets [28] (by decide +kernel) (by decide +kernel) (by kernel_rfl) (by intro _ _ _ d _ h; cases d <;> exact h) _
    · intro A hA δ'
      simp only [pickOps_cons, pickOps_nil, pick1_zero, pick1_succ]
      repeat (go_big_quiet_step ((go_at_call 18; (with_reducible first | exact Calls.pure_of_g3 (C4.out _ (by repeat (first | with_reducible exact Grew.refl _ | with_reducible apply Grew.alloc | with_reducible apply Grew.grow | with_reducible apply Grew.drew | with_reducible apply Grew.drewN))) | exact Calls.pure_of_g4 (C4.out _ (by repeat (first | with_reducible exact Grew.refl _ | with_reducible apply Grew.alloc | with_reducible apply Grew.grow | with_reducible apply Grew.drew | with_reducible apply Grew.drewN))) | exact Calls.pure_of_g (C4.out _ (by repeat (first | with_reducible exact Grew.refl _ | with_reducible apply Grew.alloc | with_reducible apply Grew.grow | with_reducible apply Grew.drew | with_reducible apply Grew.drewN))) | exact Calls.pure_of_g5 (C4.out _ (by repeat (first | with_reducible exact Grew.refl _ | with_reducible apply Grew.alloc | with_reducible apply Grew.grow | with_reducible apply Grew.drew | with_reducible apply Grew.drewN)))))))
      exact wpQuiet_nil hA.out.symm
    apply wpFlow_quiets [29,30,31] (by decide +kernel) (by decide +kernel) (by kernel_rfl) (by intro _ _ _ d _ h; cases d <;> exact h) _
    · intro A hA δ'
      simp only [pickOps_cons, pickOps_nil, pick1_zero, pick1_succ]
      repeat (go_big_quiet_step ((fail)))
      exact wpQuiet_nil hA.out.symm
    refine wpFlow_end (by decide +kernel) (by kernel_rfl) ?_
    intro δf
    go_wp2
    go_ret
    exact ⟨rfl, GZ.out.trans (by repeat (first | with_reducible exact Grew.refl _ | with_reducible apply Grew.alloc | with_reducible apply Grew.grow | with_reducible apply Grew.drew | with_reducible apply Grew.drewN))⟩
end Go.Proofs.Ytleaemeihljlnaa
namespace Go.Proofs.Ytleaemeihljlnaa.treeTells
set_option linter.unusedVariables false
set_option linter.unusedSimpArgs false
open Go.ChangeShapes Go.WideShapes Go.ChangeAt Go.RowKit

set_option maxRecDepth 100000 in
theorem lifted (os : Os) (started : os.Started) (H : Type) (enc : TypeId × Value → H) :
    ReturnsInHanded {} Try.checked os 3 .any (Rows.treeTellsSpec.pre6 enc Try.prog Try.f3 Rows.treeTellsRow.domain false) (Rows.treeTellsSpec.post enc Try.prog Try.f3 false true false false) := by
  refine returnsInHanded_of_change (C := Try.checked) own started (by kernel_rfl) Try.func3
    (ChangeSpec.witness6 (enc := enc) (C := Try.checked) false ⟨#[], #[.slice none 0 0, .int .i64 0, .int .i64 0, .slice none 0 0, .slice none 0 0], []⟩ 8 (by kernel_rfl) (by kernel_rfl) (by kernel_rfl) (by kernel_rfl)) ?_
  intro W base args ds gs before hval0 hW _ _
  have hval : ∀ (j : Nat) t v, Try.f3.params[j]? = some t → args[j]? = some v → Value.okWide Try.prog W .any base t v := hval0
  have hW' := hW
  obtain ⟨p, q, hA0, hV, rfl, hfz, hnd⟩ := hW
  have hA : DataW.TrodAll enc Try.prog W 0 (fun _ => true) true Try.f3.params.toList args.toList ds p := hA0
  have hAk := hA
  rw [Try.params3] at hA hval
  obtain ⟨v0, vs0, d0, ds0, p0, q0, hargs0, rfl, rfl, h0, r0⟩ := trodAll_cons hA
  obtain ⟨v1, vs1, d1, ds1, p1, q1, hargs1, rfl, rfl, h1, r1⟩ := trodAll_cons r0
  obtain ⟨v2, vs2, d2, ds2, p2, q2, hargs2, rfl, rfl, h2, r2⟩ := trodAll_cons r1
  obtain ⟨v3, vs3, d3, ds3, p3, q3, hargs3, rfl, rfl, h3, r3⟩ := trodAll_cons r2
  obtain ⟨v4, vs4, d4, ds4, p4, q4, hargs4, rfl, rfl, h4, r4⟩ := trodAll_cons r3
  obtain ⟨rfl, rfl, rfl⟩ := trodAll_nil r4
  subst hargs4
  subst hargs3
  subst hargs2
  subst hargs1
  obtain rfl : args = #[v0, v1, v2, v3, v4] := by cases args; simp_all
  obtain ⟨rfl, rfl⟩ := trodVars_none hV
  obtain ⟨q0', n0', c0', rfl⟩ := okWide_slice Try.underlying22 (hval 0 22 v0 rfl rfl)
  obtain ⟨aq0, ac0, al0, ae0, am0, as0⟩ := open_ids h0 rfl
  rw [ae0]
  obtain ⟨a1, rfl, rfl, _, w1⟩ := open_int Try.underlying3 (hval 1 3 v1 rfl rfl) h1
  obtain ⟨a2, rfl, rfl, _, w2⟩ := open_int Try.underlying3 (hval 2 3 v2 rfl rfl) h2
  obtain ⟨q3', n3', c3', rfl⟩ := okWide_slice Try.underlying22 (hval 3 22 v3 rfl rfl)
  obtain ⟨aq3, ac3, al3, ae3, am3, as3⟩ := open_ids h3 rfl
  rw [ae3]
  obtain ⟨q4', n4', c4', rfl⟩ := okWide_slice Try.underlying23 (hval 4 23 v4 rfl rfl)
  obtain ⟨aq4, ac4, al4, ae4, ab4, am4, as4⟩ := open_bytes h4 rfl
  rw [ae4]
  simp only [List.append_nil] at hW'
  refine (treeTells_walk aq0 ac0 al0 am0 a1 a2 aq3 ac3 al3 am3 aq4 ac4 al4 ab4 am4 W as0 as3 as4).mono fun e W' ⟨he, hg⟩ => ?_
  subst he
  rw [← ae0]
  rw [← ae3]
  rw [← ae4]
  exact ⟨_, rfl, post_of_stays hW' rfl (by simpa using hAk) (types_ok _ (by rw [Try.params3]; kernel_rfl)) rfl rfl (fun _ _ _ => (trodAll_cons_mk (shut_bool Try.underlying4 _) trodAll_mk0))
    hg (ok_one (by kernel_rfl) rfl (okWide_bool_mk Try.underlying4 _))⟩

theorem proved : Rows.TreeTellsSaid :=
  OpenClaim.holds_of_wide 3 Try.f3 rfl rfl rfl rfl rfl rfl rfl ⟨rfl, rfl, rfl, rfl, rfl⟩ rfl rfl rfl rfl rfl (by kernel_rfl) Try.func3 (by kernel_rfl)
    (of_decide_eq_true (by kernel_rfl)) (by unfold Func.isWrapper; first | (rw [if_pos (by decide +kernel)]; kernel_rfl) | (rw [if_neg (by decide +kernel)]; exact ⟨rfl, rfl⟩))
    (fun os started H enc _ => lifted os started H enc)
end Go.Proofs.Ytleaemeihljlnaa.treeTells
