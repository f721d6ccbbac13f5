/- 'stepladderlaw05.TreeNodes' answers true for every id, id, slice of bytes, without panicking, and what it was handed reads as before. Conditions: none. -/
import Derived.Test.YtleaemeihljlnaaRows
import Derived.Test.YtleaemeihljlnaaM5
/- append, of whatever is shown, nothing too; a step whose guard holds. No program in sight. -/
namespace Go
set_option linter.unusedVariables false
set_option linter.unusedSimpArgs false
open Go.RowKit
theorem wpList_unguard {P : Program} {ops : Array Oper} {Q : Exit → Act → World → Prop} {d : Option Tmp} {op : Op} {t : TypeId} {p : String} {af : Array Edge} {j : Nat} {b : Bool} {rest : List Oper} {a : Act} {w : World}
    (hw : yielded ops a.tmps j = some b) (h : wpList P ops Q (⟨d, op, t, p, af, none⟩ :: rest) a w) : wpList P ops Q (⟨d, op, t, p, af, some (j, b)⟩ :: rest) a w := by
  unfold wpList at h ⊢
  have h1 : Region.wanted ⟨d, op, t, p, af, some (j, b)⟩ (yielded ops a.tmps) = true := by simp [Region.wanted, hw]
  have h2 : Region.wanted ⟨d, op, t, p, af, none⟩ (yielded ops a.tmps) = true := rfl
  rw [if_pos h1]
  rw [if_pos h2] at h
  exact h
theorem _root_.Go.Calls.pure_of_g5 {P : Program} {f : FuncId} {args : Array Value} {X : World} {a b c e n : Junk} {v : Value}
    (h : Calls P f args (X.grow ⟨a.objs ++ (b.objs ++ (c.objs ++ (e.objs ++ n.objs))), n.drawn⟩) fun e' w' => e' = .returned v ∧ Grew (X.grow ⟨a.objs ++ (b.objs ++ (c.objs ++ (e.objs ++ n.objs))), n.drawn⟩) w') :
    Calls P f args (X.grow ⟨a.objs ++ (b.objs ++ (c.objs ++ (e.objs ++ n.objs))), n.drawn⟩) fun e' w'' => e' = .returned v ∧ ∃ m : Junk, w'' = X.grow ⟨a.objs ++ (b.objs ++ (c.objs ++ (e.objs ++ m.objs))), m.drawn⟩ :=
  h.mono fun _ _ ⟨he, hm⟩ => ⟨he, by obtain ⟨m, rfl⟩ := hm; exact ⟨⟨n.objs ++ m.objs, m.drawn⟩, by simp [grow_grow, Array.append_assoc]⟩⟩
section
variable {α : Type} {k : Nat} {f : α → List Value}
/-- append, of whatever is shown, nothing too. -/
theorem wpList_appendE2 {P : Program} {ops : Array Oper} {rest : List Oper} {o : Oper} {a : Act} {Q : Exit → Act → World → Prop} (hf : ∀ x, (f x).length = k) (hk : 0 < k) (hgd : o.guard = none) (s x : Operand) (t : TypeId)
    (ho : o.op = .call { callee := .builtin .append, args := #[s, x], argTypes := #[t, t] }) (e : TypeId) (i : TypeInfo) (z : Value) (bytes : Nat) (ht : P.underlying t = some (.slice e)) (hi : P.info? e = some i) (hz : i.zero = some z)
    (hsize : i.size = k) (hby : i.bytes = bytes) (hzs : z.cells.size = k) (h1 : ∀ x, ∀ u ∈ f x, u.oneCell' = true) (A X : World) (base : Nat) (v y : Value) (hs : a.eval s = v) (hy : a.eval x = y) (xs news : List α) (hg : Grew A X) (hA : A.heap.size ≤ base) (hX : base ≤ X.heap.size) (hown : OwnE k f X base e v xs) (hsh : ShowsE k f X y news)
    (h63 : xs.length + news.length ≤ maxLen) (hbytes : (xs.length + news.length) * bytes ≤ 140737488355328)
    (h : ∀ v' w', OwnE k f w' base e v' (xs ++ news) → Grew A w' → wpList P ops Q rest (a.put o.dst v') w') : wpList P ops Q (o :: rest) a X := by
  rcases hsh with ⟨b, of, c, rfl, hc, hb, hr⟩ | ⟨p, c, rfl, rfl⟩
  · rcases Nat.eq_zero_or_pos news.length with h0 | hp
    · obtain rfl : news = [] := List.length_eq_zero_iff.1 h0
      have hblock := hown.block
      obtain ⟨v', w', hrun, h2, h3, _⟩ := run_append_own (P := P) X base t o.type e i z k bytes ht hi hz hsize hby hzs hk v xs.length (xs.flatMap f) hown ⟨b, of, none⟩ 0 c [] (by simp) (by simp) (by simp) h63 hbytes hX
      refine Lib.wpList_append_run X hgd s x t t ho v _ hs hy v' w' hrun (h v' w' ?_ (hg.grown h3 fun j hj => Nat.le_trans hA (hblock j hj).1))
      rw [List.append_nil] at h2 ⊢
      exact h2
    · exact wpList_appendE hf hk hgd s x t ho e i z bytes ht hi hz hsize hby hzs h1 A X base v _ hs hy xs news hg hA hX hown (.inl ⟨b, of, c, rfl, hc, hb, hr⟩) h63 hbytes hp fun v' w' a b _ => h v' w' a b
  · have hblock := hown.block
    cases p with
    | some ad =>
      obtain ⟨v', w', hrun, h2, h3, _⟩ := run_append_own (P := P) X base t o.type e i z k bytes ht hi hz hsize hby hzs hk v xs.length (xs.flatMap f) hown ad 0 c [] (by simp) (by simp) (by simp) h63 hbytes hX
      refine Lib.wpList_append_run X hgd s x t t ho v _ hs hy v' w' hrun (h v' w' ?_ (hg.grown h3 fun j hj => Nat.le_trans hA (hblock j hj).1))
      rw [List.append_nil] at h2 ⊢
      exact h2
    | none =>
      have hrun : (Builtin.append_ #[t, t] o.type #[v, .slice none 0 c]).run P X = .ok v X := by
        rcases hown.2 with ⟨rfl, h0⟩ | ⟨g, cap, cur, rfl, hb, hg, hn, hm, hs, hq⟩
        · simp [Builtin.append_, run_underlying ht, sizeOf, typeInfo, zeroValue, hi, hz, Question.forced, run_firstCells_none, Builtin.lenOf]
        · have hcl : ¬ (cap < xs.length) := by omega
          simp [Builtin.append_, run_underlying ht, sizeOf, typeInfo, zeroValue, hi, hz, Question.forced, run_firstCells_none, Builtin.lenOf, hcl, hn, storeCells]
      refine Lib.wpList_append_run X hgd s x t t ho v _ hs hy v X hrun (h v X ?_ hg)
      rw [List.append_nil]
      exact hown
end
end Go
namespace Go.Proofs.Ytleaemeihljlnaa
end Go.Proofs.Ytleaemeihljlnaa
/- The walk of TreeHalves. -/
namespace Go.Proofs.Ytleaemeihljlnaa
set_option linter.unusedVariables false
set_option linter.unusedSimpArgs false
open Go.RowKit
theorem made1 (w : World) (a : Idb) : ShowsI (w.alloc (.cells (iv a.l) 29)) (.slice (some ⟨w.heap.size, 0, none⟩) 1 1) [a] := by
  have h := (OwnE.made Idb.cs_len w w.heap.size 29 [a] (Nat.le_refl _) (by simp [maxLen])).shows Idb.cs_len
  have e1 : ([a].flatMap Idb.cs).toArray = iv a.l := by
    simp only [List.flatMap_cons, List.flatMap_nil, List.append_nil, Idb.cs]
    rfl
  rw [e1] at h
  exact h
theorem made1_g (w : World) (δ : Junk) (a : Idb) : ShowsI ((w.grow δ).alloc (.cells (iv a.l) 29)) (.slice (some ⟨w.heap.size + δ.n, 0, none⟩) 1 1) [a] := by
  have := made1 (w.grow δ) a
  rwa [size_grow] at this
theorem sides10 : sidesOf 1 0 = [] := by
  show (side 1 0).reverse = []
  rw [side_one 1 0 (by omega)]; rfl
theorem chk10 (r : Idb) : chk r 1 0 r [] = true := by
  unfold chk
  rw [sides10]
  have h2 : chkIn 1 0 = true := by decide
  rw [h2]
  simp [ieq, top]
theorem prefix_calls (l : List Idb) (v : Value) (w : World) (hl : l.length ≤ 1000000) (hs : ShowsI w v l) : ∀ W, Grew w W → Calls Try.prog 13 #[v] W fun e w' => e = .returned (.agg (iv (root l).l)) ∧ Grew W w' :=
  fun W g => root_w _ l v W (Nat.le_refl _) hl (hs.grew g)
set_option maxRecDepth 100000 in
set_option maxHeartbeats 6400000 in
theorem treeHalves_walk (q : Option Addr) (c : Nat) (l : List Idb) (hm : l.length ≤ maxLen) (k : Int) (r : Idb) (n i : Int) (w : World) (hs : ShowsI w (.slice q l.length c) l) :
    Calls Try.prog 5 #[.slice q l.length c, .int .i64 k, .agg (iv r.l), .int .i64 n, .int .i64 i] w fun e w' => e = .returned (.bool true) ∧ Grew w w' := by
  have HS := Lib.hid hs
  clear hs hm
  have hrl := r.len
  by_cases h4 : 32 < l.length
  · have h4' : decide (32 < (l.length : Int)) = true := decide_eq_true (by omega)
    go_enter Try.func5, Try.ntmps5
    go_wp2_with (go_at_call 9; refine (awake_w _).mono ?_; rintro e w' ⟨rfl, δ, rfl⟩)
    go_ret
    exact ⟨rfl, (by repeat (first | with_reducible exact Grew.refl _ | with_reducible apply Grew.alloc | with_reducible apply Grew.grow | with_reducible apply Grew.drew | with_reducible apply Grew.drewN))⟩
  obtain ⟨N, hN⟩ : ∃ N, l.length = N := ⟨_, rfl⟩
  have HN := Lib.hid hN
  rw [hN] at HS h4 ⊢
  clear hN
  have h4' : decide (32 < (N : Int)) = false := decide_eq_false (by omega)
  have hNI : (N : Int) ≤ 32 := by omega
  have hall : n < 1 ∨ (¬ n < 1 ∧ 64 < n) ∨ (¬ n < 1 ∧ ¬ 64 < n ∧ i < 0) ∨ (¬ n < 1 ∧ ¬ 64 < n ∧ ¬ i < 0 ∧ n ≤ i) ∨ (¬ n < 1 ∧ ¬ 64 < n ∧ ¬ i < 0 ∧ ¬ n ≤ i) := by omega
  have hchk : (n < 1 ∨ 64 < n ∨ i < 0 ∨ n ≤ i) → chk r n i r [] = false := fun h => chk_out (by omega) r r []
  have hI : (r.l).length = 32 := hrl
  have hcC : ∀ W, Calls Try.prog 17 #[.agg (iv r.l), .int .i64 n, .int .i64 i, .agg (iv r.l), .slice none 0 0] W fun e w' => e = .returned (.bool (chk r n i r [])) ∧ Grew W w' := fun W => check_w r n i r [] _ W (.inr ⟨_, _, rfl, rfl⟩) (by simp)
  have hc1 : ∀ W, Calls Try.prog 17 #[.agg (iv r.l), .int .i64 1, .int .i64 0, .agg (iv r.l), .slice none 0 0] W fun e w' => e = .returned (.bool true) ∧ Grew W w' := fun W => by
    have := check_w r 1 0 r [] _ W (.inr ⟨none, 0, rfl, rfl⟩) (by simp)
    rwa [chk10] at this
  have C1 := Lib.hid hc1
  have hrr : ieq r.l r.l = true := decide_eq_true rfl
  rcases hall with h | h | h | h | h
  all_goals
    have hodd := hchk
    clear hchk
    first
    | (replace hodd := hodd (by omega); rw [hodd] at hcC; clear hodd)
    | clear hodd
    have CC := Lib.hid hcC
    clear hcC hc1
    try obtain ⟨h1, h⟩ := h
    try obtain ⟨h2, h⟩ := h
    try obtain ⟨h3, h⟩ := h
    go_enter Try.func5, Try.ntmps5
    go_wp2_with (go_at_call 9; refine (awake_w _).mono ?_; rintro e w' ⟨rfl, δ, rfl⟩)
    refine code_abs ?_
    intro Y hY
    have gY : Grew w Y := by rw [hY]; exact (by repeat (first | with_reducible exact Grew.refl _ | with_reducible apply Grew.alloc | with_reducible apply Grew.grow | with_reducible apply Grew.drew | with_reducible apply Grew.drewN))
    have rY : Y.rowAt w.heap.size = iv r.l := by rw [hY]; simp [go_sem]
    have zY : w.heap.size < Y.heap.size := by rw [hY]; simp; omega
    have GY := Lib.hid gY
    clear hY gY
    try (have ho : (decide (n < 1) || decide (64 < n) || decide (i < 0) || decide (n ≤ i)) = false := (by (simp only [Bool.or_eq_false_iff, decide_eq_false_iff_not]; omega)); simp only [ho]; clear ho)
    refine wp_region_flow (by kernel_rfl) ?_
    intro δf
    apply wpFlow_quiets [0,1,2,3,4,5] (by decide +kernel) (by decide +kernel) (by kernel_rfl) (by intro _ _ _ d _ h; cases d <;> exact h) _
    · intro A hA δ'
      simp only [pickOps_cons, pickOps_nil, pick1_zero, pick1_succ]
      repeat (go_big_quiet_step ((fail)))
      exact wpQuiet_nil hA.out.symm
    apply wpFlow_quiets [6] (by decide +kernel) (by decide +kernel) (by kernel_rfl) (by intro _ _ _ d _ h; cases d <;> exact h) _
    · intro A hA δ'
      simp only [pickOps_cons, pickOps_nil, pick1_zero, pick1_succ]
      repeat (go_big_quiet_step ((go_at_call 17; (with_reducible first | exact Calls.pure_of_g3 (CC.out _) | exact Calls.pure_of_g4 (CC.out _) | exact Calls.pure_of_g (CC.out _) | exact Calls.pure_of_g5 (CC.out _)))))
      exact wpQuiet_nil hA.out.symm
    apply wpFlow_quiets [7,8,9,12] (by decide +kernel) (by decide +kernel) (by kernel_rfl) (by intro _ _ _ d _ h; cases d <;> exact h) _
    · intro A hA δ'
      simp only [pickOps_cons, pickOps_nil, pick1_zero, pick1_succ]
      repeat (go_big_quiet_step ((fail)))
      exact wpQuiet_nil hA.out.symm
    refine wpFlow_one 10 (by decide +kernel) (by kernel_rfl) (by kernel_rfl) ?_
    refine wpFlowS_intro ?_
    simp only [pickOps_cons, pickOps_nil, pick1_zero, pick1_succ]
    intro δf
    go_wp2_with (fail)
    refine ⟨(by first | assumption | (simp only [grow_grow, Array.append_assoc]; assumption) | exact Grew.refl _ | (simp only [grow_grow, Array.append_assoc]; exact (by repeat (first | with_reducible exact Grew.refl _ | with_reducible apply Grew.alloc | with_reducible apply Grew.grow | with_reducible apply Grew.drew | with_reducible apply Grew.drewN))) | exact (by repeat (first | with_reducible exact Grew.refl _ | with_reducible apply Grew.alloc | with_reducible apply Grew.grow | with_reducible apply Grew.drew | with_reducible apply Grew.drewN))), ?_⟩
    refine flow_abs ?_
    intro Z hZ
    have gZ : Grew Y Z := by rw [hZ]; exact (by repeat (first | with_reducible exact Grew.refl _ | with_reducible apply Grew.alloc | with_reducible apply Grew.grow | with_reducible apply Grew.drew | with_reducible apply Grew.drewN))
    have rZ : Z.rowAt w.heap.size = iv r.l := by rw [Grew.rowAt gZ _ zY]; exact rY
    have zZ : w.heap.size < Z.heap.size := Nat.lt_of_lt_of_le zY gZ.size
    have sZ : ∀ v, (∃ δ : Junk, Z = (Y.grow δ).alloc (.cells (iv r.l) 29) ∧ v = .slice (some ⟨Y.heap.size + δ.n, 0, none⟩) 1 1) → ShowsI Z v [r] := by
      rintro v ⟨δ, h, rfl⟩
      rw [h]
      exact made1_g Y δ r
    have hR : ∀ v, (∃ δ : Junk, Z = (Y.grow δ).alloc (.cells (iv r.l) 29) ∧ v = .slice (some ⟨Y.heap.size + δ.n, 0, none⟩) 1 1) → ∀ W, Grew Z W → Calls Try.prog 13 #[v] W fun e w' => e = .returned (.agg (iv r.l)) ∧ Grew W w' := fun v hv W g => by
      have := root_w 1 [r] v W (Nat.le_refl _) (by simp) ((sZ v hv).grew g)
      rwa [root_one] at this
    have SY := Lib.hid hR
    have HZ := Lib.hid hZ
    have GZ := Lib.hid (GY.out.trans gZ)
    clear gZ hZ sZ hR rY zY
    apply wpFlow_quiets [11] (by decide +kernel) (by decide +kernel) (by kernel_rfl) (by intro _ _ _ d _ h; cases d <;> exact h) _
    · intro A hA δ'
      simp only [pickOps_cons, pickOps_nil, pick1_zero, pick1_succ]
      repeat (go_big_quiet_step ((go_at_call 13; (with_reducible first | exact Calls.pure_of_g3 (SY.out _ ⟨_, HZ.out, rfl⟩ _ (by repeat (first | with_reducible exact Grew.refl _ | with_reducible apply Grew.alloc | with_reducible apply Grew.grow | with_reducible apply Grew.drew | with_reducible apply Grew.drewN))) | exact Calls.pure_of_g4 (SY.out _ ⟨_, HZ.out, rfl⟩ _ (by repeat (first | with_reducible exact Grew.refl _ | with_reducible apply Grew.alloc | with_reducible apply Grew.grow | with_reducible apply Grew.drew | with_reducible apply Grew.drewN))) | exact Calls.pure_of_g (SY.out _ ⟨_, HZ.out, rfl⟩ _ (by repeat (first | with_reducible exact Grew.refl _ | with_reducible apply Grew.alloc | with_reducible apply Grew.grow | with_reducible apply Grew.drew | with_reducible apply Grew.drewN))) | exact Calls.pure_of_g5 (SY.out _ ⟨_, HZ.out, rfl⟩ _ (by repeat (first | with_reducible exact Grew.refl _ | with_reducible apply Grew.alloc | with_reducible apply Grew.grow | with_reducible apply Grew.drew | with_reducible apply Grew.drewN)))))))
      exact wpQuiet_nil hA.out.symm
    apply wpFlow_quiets [13,14,15,16,17] (by decide +kernel) (by decide +kernel) (by kernel_rfl) (by intro _ _ _ d _ h; cases d <;> exact h) _
    · intro A hA δ'
      simp only [pickOps_cons, pickOps_nil, pick1_zero, pick1_succ]
      repeat (go_big_quiet_step ((fail)))
      exact wpQuiet_nil hA.out.symm
    apply wpFlow_quiets [18] (by decide +kernel) (by decide +kernel) (by kernel_rfl) (by intro _ _ _ d _ h; cases d <;> exact h) _
    · intro A hA δ'
      simp only [pickOps_cons, pickOps_nil, pick1_zero, pick1_succ]
      repeat (go_big_quiet_step ((go_at_call 17; (with_reducible first | exact Calls.pure_of_g3 (C1.out _) | exact Calls.pure_of_g4 (C1.out _) | exact Calls.pure_of_g (C1.out _) | exact Calls.pure_of_g5 (C1.out _)))))
      exact wpQuiet_nil hA.out.symm
    apply wpFlow_quiets [19,20] (by decide +kernel) (by decide +kernel) (by kernel_rfl) (by intro _ _ _ d _ h; cases d <;> exact h) _
    · intro A hA δ'
      simp only [pickOps_cons, pickOps_nil, pick1_zero, pick1_succ]
      repeat (go_big_quiet_step ((fail)))
      exact wpQuiet_nil hA.out.symm
    refine wpFlow_end (by decide +kernel) (by kernel_rfl) ?_
    intro δf
    go_wp2
    have hB0 : (1 : Int) = ((2 ^ 0 : Nat) : Int) := rfl
    clear C1 CC SY HZ hrr rZ zZ
    refine code_abs ?_
    intro V hV
    have gV : Grew w V := by rw [hV]; exact GZ.out.trans (by repeat (first | with_reducible exact Grew.refl _ | with_reducible apply Grew.alloc | with_reducible apply Grew.grow | with_reducible apply Grew.drew | with_reducible apply Grew.drewN))
    have GV := Lib.hid gV
    clear gV hV GZ GY
    go_loopw [13, 14] (fun b j wr => ∃ e : Nat, e ≤ 5 ∧ b = .int .i64 ((2 ^ e : Nat) : Int) ∧ j = .int .i64 e ∧ Grew V wr) (fun b j _ => 5 - (intOf j).toNat)
    case atStart => exact ⟨0, by omega, rfl, rfl, Grew.refl _⟩
    case round =>
      obtain ⟨e, he, rfl, rfl, g⟩ := hrel
      have HG := Lib.hid g
      clear g
      have hp1 : 2 ^ e ≤ 2 ^ 5 := Nat.pow_le_pow_right (by omega) he
      have hp2 : 2 ^ (e + 1) = 2 * 2 ^ e := by rw [Nat.pow_succ]; omega
      have hp3 : e < 5 → 2 ^ e ≤ 2 ^ 4 := fun h => Nat.pow_le_pow_right (by omega) (by omega)
      have hp4 : e = 5 → 2 ^ e = 32 := fun h => by rw [h]
      obtain ⟨B, hB⟩ : ∃ B, 2 ^ e = B := ⟨_, rfl⟩
      rw [hB] at hp1 hp2 hp3 hp4
      have HB := Lib.hid hB
      have HP := Lib.hid hp2
      simp only [hB]
      clear hB hp2
      by_cases hk : (e : Int) < k ∧ e < 5
      · obtain ⟨hk1, hk2⟩ := hk
        have hb1 : (B : Int) < 32 := by have := hp3 hk2; omega
        have hb2 : (2 * (B : Int)) = ((2 ^ (e + 1) : Nat) : Int) := by rw [HP.out]; omega
        have he5 : (e : Int) < 5 := by omega
        have HQ := Lib.hid hb2
        clear hp1 hp3 hp4 hb2 hB0
        go_wp2
        exact ⟨⟨e + 1, by omega, by rw [HQ.out], by go_num, HG.out⟩, by simp only [intOf]; omega⟩
      · have hout : ¬ (e : Int) < k ∨ ((e : Int) < k ∧ ¬ (B : Int) < 32) := by
          by_cases h1 : (e : Int) < k
          · exact .inr ⟨h1, by have := hp4 (by omega); omega⟩
          · exact .inl h1
        clear hk hp3 hp4
        have hbI : (B : Int) ≤ 32 := by omega
        have hb1 : 1 ≤ (B : Int) := by have := Nat.one_le_two_pow (n := e); rw [HB.out] at this; omega
        have cases3 : (N : Int) < B ∨ (¬ (N : Int) < B ∧ 2 * (B : Int) < N) ∨ (¬ (N : Int) < B ∧ ¬ 2 * (B : Int) < N ∧ (N : Int) = B) ∨ (¬ (N : Int) < B ∧ ¬ 2 * (B : Int) < N ∧ ¬ (N : Int) = B) := by omega
        have HG2 := Lib.hid (GV.out.trans HG.out)
        clear hp1 GV HG hB0
        rcases cases3 with c1 | ⟨c1, c2⟩ | ⟨c1, c2, c3⟩ | ⟨c1, c2, c3⟩
        rotate_left 3
        · have hs := HS.out
          have hN := HN.out
          rw [← hN] at hs
          obtain ⟨b, o, rfl, _, hc, hb, hat⟩ := showsI_some hs (by omega)
          rw [hN] at hs hc
          have hh := half_uniq N e (by omega) (by omega) (by rw [HB.out]; omega) (by rw [HB.out]; omega)
          rw [HB.out] at hh
          have hcut := root_cut l (by omega) (by omega)
          rw [hN, ← hh] at hcut
          have p1 : ShowsI w (.slice (some ⟨b, o, none⟩) B c) (l.take B) := by
            have := showsI_part (o := o) hb hat 0 B c (by omega) (by omega)
            simpa using this
          have p2 : ShowsI w (.slice (some ⟨b, o + B * 32, none⟩) (N - B) (c - B)) (l.drop B) := by
            have := showsI_part (o := o) hb hat B (N - B) (c - B) (by omega) (by omega)
            rwa [List.take_of_length_le (by rw [List.length_drop]; omega)] at this
          have K0 := Lib.hid (prefix_calls l _ w (by omega) hs)
          have K1 := Lib.hid (prefix_calls _ _ w (by rw [List.length_take]; omega) p1)
          have K2 := Lib.hid (prefix_calls _ _ w (by rw [List.length_drop]; omega) p2)
          have hx1 := (root (l.take B)).len
          have hx2 := (root (l.drop B)).len
          have hx0 := (root l).len
          obtain ⟨ra, hA⟩ : ∃ A, root (l.take B) = A := ⟨_, rfl⟩
          obtain ⟨rb, hB⟩ : ∃ A, root (l.drop B) = A := ⟨_, rfl⟩
          obtain ⟨rc, hC⟩ : ∃ A, root l = A := ⟨_, rfl⟩
          rw [hA] at K1 hcut hx1
          rw [hB] at K2 hcut hx2
          rw [hC] at K0 hcut hx0
          have hnl := (ra.node rb).len
          have heq : ieq rc.l (ra.node rb).l = true := decide_eq_true (by rw [hcut])
          have k1 : (B : Int) ≤ (c : Int) := by omega
          have k2 : (B : Int) ≤ (N : Int) := by omega
          have k3 : ¬ c = B := by omega
          clear hs hN hc hb hat hh hcut p1 p2 hA hB hC HB HP HN HS
          refine code_abs ?_
          intro Y hY
          have GY := Lib.hid (show Grew w Y by rw [hY]; exact HG2.out)
          clear hY HG2
          rcases hout with hout | ⟨ho1, ho2⟩
          rotate_left
          · exfalso; omega
          · go_wp2
            refine wp_region_flow (by kernel_rfl) ?_
            intro δf
            apply wpFlow_quiets [0] (by decide +kernel) (by decide +kernel) (by kernel_rfl) (by intro _ _ _ d _ h; cases d <;> exact h) _
            · intro A hA δ'
              simp only [pickOps_cons, pickOps_nil, pick1_zero, pick1_succ]
              repeat (go_big_quiet_step ((fail)))
              exact wpQuiet_nil hA.out.symm
            apply wpFlow_quiets [1] (by decide +kernel) (by decide +kernel) (by kernel_rfl) (by intro _ _ _ d _ h; cases d <;> exact h) _
            · intro A hA δ'
              simp only [pickOps_cons, pickOps_nil, pick1_zero, pick1_succ]
              repeat (go_big_quiet_step ((go_at_call 13; (with_reducible first | exact Calls.pure_of_g3 (K0.out _ (GY.out.trans (by repeat (first | with_reducible exact Grew.refl _ | with_reducible apply Grew.alloc | with_reducible apply Grew.grow | with_reducible apply Grew.drew | with_reducible apply Grew.drewN)))) | exact Calls.pure_of_g4 (K0.out _ (GY.out.trans (by repeat (first | with_reducible exact Grew.refl _ | with_reducible apply Grew.alloc | with_reducible apply Grew.grow | with_reducible apply Grew.drew | with_reducible apply Grew.drewN)))) | exact Calls.pure_of_g (K0.out _ (GY.out.trans (by repeat (first | with_reducible exact Grew.refl _ | with_reducible apply Grew.alloc | with_reducible apply Grew.grow | with_reducible apply Grew.drew | with_reducible apply Grew.drewN)))) | exact Calls.pure_of_g5 (K0.out _ (GY.out.trans (by repeat (first | with_reducible exact Grew.refl _ | with_reducible apply Grew.alloc | with_reducible apply Grew.grow | with_reducible apply Grew.drew | with_reducible apply Grew.drewN))))))))
              exact wpQuiet_nil hA.out.symm
            apply wpFlow_quiets [2,3,4] (by decide +kernel) (by decide +kernel) (by kernel_rfl) (by intro _ _ _ d _ h; cases d <;> exact h) _
            · intro A hA δ'
              simp only [pickOps_cons, pickOps_nil, pick1_zero, pick1_succ]
              repeat (go_big_quiet_step ((fail)))
              exact wpQuiet_nil hA.out.symm
            apply wpFlow_quiets [5] (by decide +kernel) (by decide +kernel) (by kernel_rfl) (by intro _ _ _ d _ h; cases d <;> exact h) _
            · intro A hA δ'
              simp only [pickOps_cons, pickOps_nil, pick1_zero, pick1_succ]
              repeat (go_big_quiet_step ((go_at_call 13; (with_reducible first | exact Calls.pure_of_g3 (K1.out _ (GY.out.trans (by repeat (first | with_reducible exact Grew.refl _ | with_reducible apply Grew.alloc | with_reducible apply Grew.grow | with_reducible apply Grew.drew | with_reducible apply Grew.drewN)))) | exact Calls.pure_of_g4 (K1.out _ (GY.out.trans (by repeat (first | with_reducible exact Grew.refl _ | with_reducible apply Grew.alloc | with_reducible apply Grew.grow | with_reducible apply Grew.drew | with_reducible apply Grew.drewN)))) | exact Calls.pure_of_g (K1.out _ (GY.out.trans (by repeat (first | with_reducible exact Grew.refl _ | with_reducible apply Grew.alloc | with_reducible apply Grew.grow | with_reducible apply Grew.drew | with_reducible apply Grew.drewN)))) | exact Calls.pure_of_g5 (K1.out _ (GY.out.trans (by repeat (first | with_reducible exact Grew.refl _ | with_reducible apply Grew.alloc | with_reducible apply Grew.grow | with_reducible apply Grew.drew | with_reducible apply Grew.drewN))))))))
              exact wpQuiet_nil hA.out.symm
            apply wpFlow_quiets [6,7,8] (by decide +kernel) (by decide +kernel) (by kernel_rfl) (by intro _ _ _ d _ h; cases d <;> exact h) _
            · intro A hA δ'
              simp only [pickOps_cons, pickOps_nil, pick1_zero, pick1_succ]
              repeat (go_big_quiet_step ((fail)))
              exact wpQuiet_nil hA.out.symm
            apply wpFlow_quiets [9] (by decide +kernel) (by decide +kernel) (by kernel_rfl) (by intro _ _ _ d _ h; cases d <;> exact h) _
            · intro A hA δ'
              simp only [pickOps_cons, pickOps_nil, pick1_zero, pick1_succ]
              repeat (go_big_quiet_step ((go_at_call 13; (with_reducible first | exact Calls.pure_of_g3 (K2.out _ (GY.out.trans (by repeat (first | with_reducible exact Grew.refl _ | with_reducible apply Grew.alloc | with_reducible apply Grew.grow | with_reducible apply Grew.drew | with_reducible apply Grew.drewN)))) | exact Calls.pure_of_g4 (K2.out _ (GY.out.trans (by repeat (first | with_reducible exact Grew.refl _ | with_reducible apply Grew.alloc | with_reducible apply Grew.grow | with_reducible apply Grew.drew | with_reducible apply Grew.drewN)))) | exact Calls.pure_of_g (K2.out _ (GY.out.trans (by repeat (first | with_reducible exact Grew.refl _ | with_reducible apply Grew.alloc | with_reducible apply Grew.grow | with_reducible apply Grew.drew | with_reducible apply Grew.drewN)))) | exact Calls.pure_of_g5 (K2.out _ (GY.out.trans (by repeat (first | with_reducible exact Grew.refl _ | with_reducible apply Grew.alloc | with_reducible apply Grew.grow | with_reducible apply Grew.drew | with_reducible apply Grew.drewN))))))))
              exact wpQuiet_nil hA.out.symm
            apply wpFlow_quiets [10] (by decide +kernel) (by decide +kernel) (by kernel_rfl) (by intro _ _ _ d _ h; cases d <;> exact h) _
            · intro A hA δ'
              simp only [pickOps_cons, pickOps_nil, pick1_zero, pick1_succ]
              repeat (go_big_quiet_step ((go_at_call 19; (with_reducible first | exact Calls.pure_of_g3 (node_w ra rb _) | exact Calls.pure_of_g4 (node_w ra rb _) | exact Calls.pure_of_g (node_w ra rb _) | exact Calls.pure_of_g5 (node_w ra rb _)))))
              exact wpQuiet_nil hA.out.symm
            apply wpFlow_quiets [11,12] (by decide +kernel) (by decide +kernel) (by kernel_rfl) (by intro _ _ _ d _ h; cases d <;> exact h) _
            · intro A hA δ'
              simp only [pickOps_cons, pickOps_nil, pick1_zero, pick1_succ]
              repeat (go_big_quiet_step ((fail)))
              exact wpQuiet_nil hA.out.symm
            refine wpFlow_end (by decide +kernel) (by kernel_rfl) ?_
            intro δf
            go_wp2
            go_ret
            exact ⟨rfl, GY.out.trans (by repeat (first | with_reducible exact Grew.refl _ | with_reducible apply Grew.alloc | with_reducible apply Grew.grow | with_reducible apply Grew.drew | with_reducible apply Grew.drewN))⟩
        all_goals
          rcases hout with hout | ⟨ho1, ho2⟩
          all_goals
            clear HP
            go_wp2
            go_ret
            exact ⟨rfl, HG2.out⟩
end Go.Proofs.Ytleaemeihljlnaa
/- The walk of TreeNodes. -/
namespace Go.Proofs.Ytleaemeihljlnaa
set_option linter.unusedVariables false
set_option linter.unusedSimpArgs false
open Go.RowKit
theorem conv_str {w : World} {v : Value} {l : List Nat} (h : Shows w v (bys l)) (δ : Junk) : (convert 23 9 v).run Try.prog (w.grow δ) = .ok (.string (bstr l)) (w.grow δ) := shows_string (h.grew ⟨δ, rfl⟩)
theorem own_built (X : World) (c : Nat) : OwnR (X.alloc (.cells #[.int .u8 c] 5)) X.heap.size 5 (.slice (some ⟨X.heap.size, 0, none⟩) 1 1) (bys [c]) :=
  own_alloc X X.heap.size 5 [.int .u8 c] (Nat.le_refl _) (by simp [maxLen])
set_option maxRecDepth 100000 in
set_option maxHeartbeats 6400000 in
theorem treeNodes_walk (a b : Idb) (q : Option Addr) (cc : Nat) (l : List Nat) (hb : ∀ x ∈ l, x < 256) (hm : l.length ≤ maxLen) (w : World) (hs : Shows w (.slice q l.length cc) (bys l)) :
    Calls Try.prog 6 #[.agg (iv a.l), .agg (iv b.l), .slice q l.length cc] w fun e w' => e = .returned (.bool true) ∧ Grew w w' := by
  have HS := Lib.hid hs
  have HB := Lib.hid hb
  clear hs hm hb
  have hal := a.len
  have hbl := b.len
  obtain ⟨N, hN⟩ : ∃ N, l.length = N := ⟨_, rfl⟩
  have HN := Lib.hid hN
  rw [hN] at HS ⊢
  clear hN
  obtain ⟨ib, hi, hz, hsz, hby⟩ := info_b
  by_cases h4 : 200 < (N : Int)
  · go_enter Try.func6, Try.ntmps6
    go_wp2_with (go_at_call 9; refine (awake_w _).mono ?_; rintro e w' ⟨rfl, δ, rfl⟩)
    go_ret
    exact ⟨rfl, (by repeat (first | with_reducible exact Grew.refl _ | with_reducible apply Grew.alloc | with_reducible apply Grew.grow | with_reducible apply Grew.drew | with_reducible apply Grew.drewN))⟩
  go_enter Try.func6, Try.ntmps6
  go_wp2_with (first | (go_at_call 9; refine (awake_w _).mono ?_; rintro e w' ⟨rfl, δ, rfl⟩) | (at_builtin; refine stop_of ?_))
  unfold Stop
  have gX0 : Grew w (((w.alloc (.cells (iv a.l) 29)).alloc (.cells (iv b.l) 29)).grow δ) := (by repeat (first | with_reducible exact Grew.refl _ | with_reducible apply Grew.alloc | with_reducible apply Grew.grow | with_reducible apply Grew.drew | with_reducible apply Grew.drewN))
  have ra0 : (((w.alloc (.cells (iv a.l) 29)).alloc (.cells (iv b.l) 29)).grow δ).rowAt w.heap.size = iv a.l := by simp [go_sem]
  have rb0 : (((w.alloc (.cells (iv a.l) 29)).alloc (.cells (iv b.l) 29)).grow δ).rowAt (w.heap.size + 1) = iv b.l := by simp [go_sem]
  have s0 : (((w.alloc (.cells (iv a.l) 29)).alloc (.cells (iv b.l) 29)).grow δ).heap.size = w.heap.size + 1 + 1 + δ.n := by simp
  obtain ⟨X0, h0⟩ : ∃ X, (((w.alloc (.cells (iv a.l) 29)).alloc (.cells (iv b.l) 29)).grow δ) = X := ⟨_, rfl⟩
  rw [h0] at gX0 ra0 rb0 s0 ⊢
  have sa0 : Shows X0 (.slice (some ⟨w.heap.size, 0, none⟩) 32 32) (bys a.l) := by
    have := shows_row (by omega) ra0
    rwa [hal] at this
  have sb0 : Shows X0 (.slice (some ⟨w.heap.size + 1, 0, none⟩) 32 32) (bys b.l) := by
    have := shows_row (by omega) rb0
    rwa [hbl] at this
  have o1 := own_built X0 1
  rw [s0] at o1
  have g1 : Grew X0 (X0.alloc (.cells #[.int .u8 1] 5)) := (by repeat (first | with_reducible exact Grew.refl _ | with_reducible apply Grew.alloc | with_reducible apply Grew.grow | with_reducible apply Grew.drew | with_reducible apply Grew.drewN))
  have GX := Lib.hid gX0
  have SA := Lib.hid (sa0.grew g1)
  have SB := Lib.hid sb0
  have O1 := Lib.hid o1
  have G1 := Lib.hid g1
  have RA := Lib.hid ra0
  have RB := Lib.hid rb0
  have Z0 := Lib.hid s0
  clear h0 gX0 ra0 rb0 s0 sa0 sb0 o1 g1
  refine wpList_appends rfl _ _ _ rfl _ ib _ 1 under_bs hi hz hsz hby rfl X0 _ _ _ rfl rfl (bys [1]) (bys a.l) G1.out (by rw [Z0.out]; exact O1.out) (by exact SA.out) (bys_one a.l) (by rw [bys_len, bys_len, hal]; decide) (by rw [bys_len, bys_len, hal]; decide) ?_
  intro v1 w1 ho1 hg1
  rw [← bys_append] at ho1
  have HO1 := Lib.hid ho1
  have HG1 := Lib.hid hg1
  clear ho1 hg1 G1 SA O1
  go_wp2_with (at_builtin; refine stop_of ?_)
  unfold Stop
  refine wpList_appends rfl _ _ _ rfl _ ib _ 1 under_bs hi hz hsz hby rfl X0 w1 _ _ rfl rfl _ (bys b.l) HG1.out (by exact HO1.out) (by exact SB.out.grew HG1.out) (bys_one b.l) (by rw [bys_len, bys_len, List.length_append, hal, hbl]; decide) (by rw [bys_len, bys_len, List.length_append, hal, hbl]; decide) ?_
  intro v2 w2 ho2 hg2
  rw [← bys_append] at ho2
  have S2 := Lib.hid (show Shows w2 v2 (bys (textL a.l b.l)) from ho2.shows)
  have HG2 := Lib.hid hg2
  clear ho2 hg2 HO1 HG1 SB
  go_wp2_with (at_builtin; refine stop_of ?_)
  unfold Stop
  have o3 := Lib.hid (own_built w2 0)
  refine wpList_appends rfl _ _ _ rfl _ ib _ 1 under_bs hi hz hsz hby rfl w2 _ _ _ rfl rfl (bys [0]) (bys l) (by repeat (first | with_reducible exact Grew.refl _ | with_reducible apply Grew.alloc | with_reducible apply Grew.grow | with_reducible apply Grew.drew | with_reducible apply Grew.drewN)) (by exact o3.out) (by exact HS.out.grew (GX.out.trans (HG2.out.trans (by repeat (first | with_reducible exact Grew.refl _ | with_reducible apply Grew.alloc | with_reducible apply Grew.grow | with_reducible apply Grew.drew | with_reducible apply Grew.drewN))))) (bys_one l) (by rw [bys_len, bys_len, HN.out]; simp [maxLen]; omega) (by rw [bys_len, bys_len, HN.out]; simp; omega) ?_
  intro v3 w3 ho3 hg3
  rw [← bys_append] at ho3
  have S3 := Lib.hid (show Shows w3 v3 (bys (0 :: l)) from ho3.shows)
  have G3 := Lib.hid (HG2.out.trans hg3)
  have S2 := Lib.hid (S2.out.grew hg3)
  have R1 := by have := G3.out; exact Lib.hid (show w3.rowAt w.heap.size = iv a.l from by rw [Grew.rowAt G3.out _ (by rw [Z0.out]; omega)]; exact RA.out)
  clear ho3 hg3 HG2 o3
  have r1 := R1.out
  have r2 : w3.rowAt (w.heap.size + 1) = iv b.l := by rw [Grew.rowAt G3.out _ (by rw [Z0.out]; omega)]; exact RB.out
  have z2 : w.heap.size + 1 < w3.heap.size := by have := G3.out.size; rw [Z0.out] at this; omega
  have z1 : w.heap.size < w3.heap.size := by omega
  have G4 := Lib.hid (GX.out.trans G3.out)
  have s1 := conv_str S2.out
  have s2 := conv_str S3.out
  have e1 : ((bstr (textL a.l b.l)).toList == (bstr (0 :: l)).toList) = false := by
    rw [eq_bstr _ _ (text_lt a b) (by intro x hx; rcases List.mem_cons.1 hx with rfl | hx; omega; exact HB.out x hx)]
    exact decide_eq_false (by simp [textL])
  have K0 := Lib.hid (fun W => node_w a b W)
  have K1 : Hid (∀ W, Grew w3 W → Calls Try.prog 21 #[v2] W fun e w' => e = .returned (.agg (iv (a.node b).l)) ∧ Grew W w') := Lib.hid (fun W g => sum_w (textL a.l b.l) v2 W (by rw [text_len]; decide) (text_lt a b) (S2.out.grew g))
  have K2 := Lib.hid (fun W (g : Grew w3 W) => leaf_w l (.slice q N cc) W (by rw [HN.out]; omega) HB.out (HS.out.grew (G4.out.trans g)))
  have K3 : Hid (∀ W, Grew w3 W → Calls Try.prog 21 #[v3] W fun e w' => e = .returned (.agg (iv (Idb.leaf l).l)) ∧ Grew W w') := Lib.hid (fun W g => sum_w (0 :: l) v3 W (by simp; rw [HN.out]; omega) (by intro x hx; rcases List.mem_cons.1 hx with rfl | hx; omega; exact HB.out x hx) (S3.out.grew g))
  have K4 : Hid (∀ W, Calls Try.prog 13 #[.slice none 0 0] W fun e w' => e = .returned (.agg (iv (Idb.sum [2]).l)) ∧ Grew W w') := Lib.hid (fun W => by
    have := root_w 0 [] (.slice none 0 0) W (Nat.le_refl _) (by simp) (.inr ⟨_, _, rfl, rfl⟩)
    rwa [root_nil] at this)
  have h1 := (a.node b).len
  have h2 := (Idb.leaf l).len
  have h3 := (Idb.sum [2]).len
  obtain ⟨x, hx⟩ : ∃ x, a.node b = x := ⟨_, rfl⟩
  obtain ⟨y, hy⟩ : ∃ x, Idb.leaf l = x := ⟨_, rfl⟩
  obtain ⟨z, hz'⟩ : ∃ x, Idb.sum [2] = x := ⟨_, rfl⟩
  rw [hx] at K0 K1 h1
  rw [hy] at K2 K3 h2
  have K5 : Hid (∀ (X : World) (g : Nat), g = X.heap.size → Calls Try.prog 21 #[.slice (some ⟨g, 0, none⟩) 1 1] (X.alloc (.cells #[.int .u8 2] 5)) fun e w' => e = .returned (.agg (iv z.l)) ∧ Grew (X.alloc (.cells #[.int .u8 2] 5)) w') := Lib.hid (fun X g h => by have := sum2_w X g h; rwa [hz'] at this)
  rw [hz'] at K4 h3
  have f1 : ieq x.l x.l = true := decide_eq_true rfl
  have f2 : ieq y.l y.l = true := decide_eq_true rfl
  have f3 : ieq z.l z.l = true := decide_eq_true rfl
  clear hx hy hz' R1 RA RB Z0 G3 GX HB HS S2 S3 hi hz hsz hby
  go_wp2_with (first | (go_at_call 19; refine (K0.out _).mono ?_; rintro e w' ⟨rfl, δ1, rfl⟩) | (go_at_call 15; refine stop_of ?_) | (go_at_call 13; refine stop_of ?_) | (go_at_call 21; refine stop_of ?_))
  unfold Stop
  refine (K1.out _ (by repeat (first | with_reducible exact Grew.refl _ | with_reducible apply Grew.alloc | with_reducible apply Grew.grow | with_reducible apply Grew.drew | with_reducible apply Grew.drewN))).mono ?_
  rintro e w' ⟨rfl, δ2, rfl⟩
  go_wp2_with (first | (go_at_call 15; refine (K2.out _ (by repeat (first | with_reducible exact Grew.refl _ | with_reducible apply Grew.alloc | with_reducible apply Grew.grow | with_reducible apply Grew.drew | with_reducible apply Grew.drewN))).mono ?_; rintro e w' ⟨rfl, δ3, rfl⟩) | (go_at_call 21; refine stop_of ?_))
  unfold Stop
  refine (K3.out _ (by repeat (first | with_reducible exact Grew.refl _ | with_reducible apply Grew.alloc | with_reducible apply Grew.grow | with_reducible apply Grew.drew | with_reducible apply Grew.drewN))).mono ?_
  rintro e w' ⟨rfl, δ4, rfl⟩
  go_wp2_with (first | (go_at_call 13; refine (K4.out _).mono ?_; rintro e w' ⟨rfl, δ5, rfl⟩) | (go_at_call 21; refine stop_of ?_))
  unfold Stop
  refine (K5.out _ _ (by simp)).mono ?_
  rintro e w' ⟨rfl, δ6, rfl⟩
  go_wp2
  go_ret
  exact ⟨rfl, G4.out.trans (by repeat (first | with_reducible exact Grew.refl _ | with_reducible apply Grew.alloc | with_reducible apply Grew.grow | with_reducible apply Grew.drew | with_reducible apply Grew.drewN))⟩
end Go.Proofs.Ytleaemeihljlnaa
namespace Go.Proofs.Ytleaemeihljlnaa.treeNodes
set_option linter.unusedVariables false
set_option linter.unusedSimpArgs false
open Go.ChangeShapes Go.WideShapes Go.ChangeAt Go.RowKit

set_option maxRecDepth 100000 in
theorem lifted (os : Os) (started : os.Started) (H : Type) (enc : TypeId × Value → H) :
    ReturnsInHanded {} Try.checked os 6 .any (Rows.treeNodesSpec.pre6 enc Try.prog Try.f6 Rows.treeNodesRow.domain false) (Rows.treeNodesSpec.post enc Try.prog Try.f6 false true false false) := by
  refine returnsInHanded_of_change (C := Try.checked) own started (by kernel_rfl) Try.func6
    (ChangeSpec.witness6 (enc := enc) (C := Try.checked) false ⟨#[], #[.agg (Array.replicate 32 (.int .u8 0)), .agg (Array.replicate 32 (.int .u8 0)), .slice none 0 0], []⟩ 8 (by kernel_rfl) (by kernel_rfl) (by kernel_rfl) (by kernel_rfl)) ?_
  intro W base args ds gs before hval0 hW _ _
  have hval : ∀ (j : Nat) t v, Try.f6.params[j]? = some t → args[j]? = some v → Value.okWide Try.prog W .any base t v := hval0
  have hW' := hW
  obtain ⟨p, q, hA0, hV, rfl, hfz, hnd⟩ := hW
  have hA : DataW.TrodAll enc Try.prog W 0 (fun _ => true) true Try.f6.params.toList args.toList ds p := hA0
  have hAk := hA
  rw [Try.params6] at hA hval
  obtain ⟨v0, vs0, d0, ds0, p0, q0, hargs0, rfl, rfl, h0, r0⟩ := trodAll_cons hA
  obtain ⟨v1, vs1, d1, ds1, p1, q1, hargs1, rfl, rfl, h1, r1⟩ := trodAll_cons r0
  obtain ⟨v2, vs2, d2, ds2, p2, q2, hargs2, rfl, rfl, h2, r2⟩ := trodAll_cons r1
  obtain ⟨rfl, rfl, rfl⟩ := trodAll_nil r2
  subst hargs2
  subst hargs1
  obtain rfl : args = #[v0, v1, v2] := by cases args; simp_all
  obtain ⟨rfl, rfl⟩ := trodVars_none hV
  obtain ⟨a0, rfl, _, _⟩ := open_id (hval 0 29 v0 rfl rfl) h0
  obtain ⟨a1, rfl, _, _⟩ := open_id (hval 1 29 v1 rfl rfl) h1
  obtain ⟨q2', n2', c2', rfl⟩ := okWide_slice Try.underlying23 (hval 2 23 v2 rfl rfl)
  obtain ⟨aq2, ac2, al2, ae2, ab2, am2, as2⟩ := open_bytes h2 rfl
  rw [ae2]
  simp only [List.append_nil] at hW'
  refine (treeNodes_walk a0 a1 aq2 ac2 al2 ab2 am2 W as2).mono fun e W' ⟨he, hg⟩ => ?_
  subst he
  rw [← ae2]
  exact ⟨_, rfl, post_of_stays hW' rfl (by simpa using hAk) (types_ok _ (by rw [Try.params6]; kernel_rfl)) rfl rfl (fun _ _ _ => (trodAll_cons_mk (shut_bool Try.underlying4 _) trodAll_mk0))
    hg (ok_one (by kernel_rfl) rfl (okWide_bool_mk Try.underlying4 _))⟩

theorem proved : Rows.TreeNodesSaid :=
  OpenClaim.holds_of_wide 6 Try.f6 rfl rfl rfl rfl rfl rfl rfl ⟨rfl, rfl, rfl, rfl, rfl⟩ rfl rfl rfl rfl rfl (by kernel_rfl) Try.func6 (by kernel_rfl)
    (of_decide_eq_true (by kernel_rfl)) (by unfold Func.isWrapper; first | (rw [if_pos (by decide +kernel)]; kernel_rfl) | (rw [if_neg (by decide +kernel)]; exact ⟨rfl, rfl⟩))
    (fun os started H enc _ => lifted os started H enc)
end Go.Proofs.Ytleaemeihljlnaa.treeNodes
