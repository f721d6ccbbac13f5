/- 'stepladderlaw05.TreeApart' answers true for every slice of ids, slice of ids, int, without panicking, and what it was handed reads as before. Conditions: none. -/
import Derived.ChangeKeysEq
import Derived.OwnWalk
import Derived.Test.YtleaemeihljlnaaRows
import Derived.Test.YtleaemeihljlnaaM5
/- append, of whatever is shown, nothing too; a step whose guard holds. No program in sight. -/
namespace Go
set_option linter.unusedVariables false
set_option linter.unusedSimpArgs false
open Go.RowKit
theorem wpList_unguard {P : Program} {ops : Array Oper} {Q : Exit → Act → World → Prop} {d : Option Tmp} {op : Op} {t : TypeId} {p : String} {af : Array Edge} {j : Nat} {b : Bool} {rest : List Oper} {a : Act} {w : World}
    (hw : yielded ops a.tmps j = some b) (h : wpList P ops Q (⟨d, op, t, p, af, none⟩ :: rest) a w) : wpList P ops Q (⟨d, op, t, p, af, some (j, b)⟩ :: rest) a w := by
  unfold wpList at h ⊢
  have h1 : Region.wanted ⟨d, op, t, p, af, some (j, b)⟩ (yielded ops a.tmps) = true := by simp [Region.wanted, hw]
  have h2 : Region.wanted ⟨d, op, t, p, af, none⟩ (yielded ops a.tmps) = true := rfl
  rw [if_pos h1]
  rw [if_pos h2] at h
  exact h
theorem _root_.Go.Calls.pure_of_g5 {P : Program} {f : FuncId} {args : Array Value} {X : World} {a b c e n : Junk} {v : Value}
    (h : Calls P f args (X.grow ⟨a.objs ++ (b.objs ++ (c.objs ++ (e.objs ++ n.objs))), n.drawn⟩) fun e' w' => e' = .returned v ∧ Grew (X.grow ⟨a.objs ++ (b.objs ++ (c.objs ++ (e.objs ++ n.objs))), n.drawn⟩) w') :
    Calls P f args (X.grow ⟨a.objs ++ (b.objs ++ (c.objs ++ (e.objs ++ n.objs))), n.drawn⟩) fun e' w'' => e' = .returned v ∧ ∃ m : Junk, w'' = X.grow ⟨a.objs ++ (b.objs ++ (c.objs ++ (e.objs ++ m.objs))), m.drawn⟩ :=
  h.mono fun _ _ ⟨he, hm⟩ => ⟨he, by obtain ⟨m, rfl⟩ := hm; exact ⟨⟨n.objs ++ m.objs, m.drawn⟩, by simp [grow_grow, Array.append_assoc]⟩⟩
section
variable {α : Type} {k : Nat} {f : α → List Value}
/-- append, of whatever is shown, nothing too. -/
theorem wpList_appendE2 {P : Program} {ops : Array Oper} {rest : List Oper} {o : Oper} {a : Act} {Q : Exit → Act → World → Prop} (hf : ∀ x, (f x).length = k) (hk : 0 < k) (hgd : o.guard = none) (s x : Operand) (t : TypeId)
    (ho : o.op = .call { callee := .builtin .append, args := #[s, x], argTypes := #[t, t] }) (e : TypeId) (i : TypeInfo) (z : Value) (bytes : Nat) (ht : P.underlying t = some (.slice e)) (hi : P.info? e = some i) (hz : i.zero = some z)
    (hsize : i.size = k) (hby : i.bytes = bytes) (hzs : z.cells.size = k) (h1 : ∀ x, ∀ u ∈ f x, u.oneCell' = true) (A X : World) (base : Nat) (v y : Value) (hs : a.eval s = v) (hy : a.eval x = y) (xs news : List α) (hg : Grew A X) (hA : A.heap.size ≤ base) (hX : base ≤ X.heap.size) (hown : OwnE k f X base e v xs) (hsh : ShowsE k f X y news)
    (h63 : xs.length + news.length ≤ maxLen) (hbytes : (xs.length + news.length) * bytes ≤ 140737488355328)
    (h : ∀ v' w', OwnE k f w' base e v' (xs ++ news) → Grew A w' → wpList P ops Q rest (a.put o.dst v') w') : wpList P ops Q (o :: rest) a X := by
  rcases hsh with ⟨b, of, c, rfl, hc, hb, hr⟩ | ⟨p, c, rfl, rfl⟩
  · rcases Nat.eq_zero_or_pos news.length with h0 | hp
    · obtain rfl : news = [] := List.length_eq_zero_iff.1 h0
      have hblock := hown.block
      obtain ⟨v', w', hrun, h2, h3, _⟩ := run_append_own (P := P) X base t o.type e i z k bytes ht hi hz hsize hby hzs hk v xs.length (xs.flatMap f) hown ⟨b, of, none⟩ 0 c [] (by simp) (by simp) (by simp) h63 hbytes hX
      refine Lib.wpList_append_run X hgd s x t t ho v _ hs hy v' w' hrun (h v' w' ?_ (hg.grown h3 fun j hj => Nat.le_trans hA (hblock j hj).1))
      rw [List.append_nil] at h2 ⊢
      exact h2
    · exact wpList_appendE hf hk hgd s x t ho e i z bytes ht hi hz hsize hby hzs h1 A X base v _ hs hy xs news hg hA hX hown (.inl ⟨b, of, c, rfl, hc, hb, hr⟩) h63 hbytes hp fun v' w' a b _ => h v' w' a b
  · have hblock := hown.block
    cases p with
    | some ad =>
      obtain ⟨v', w', hrun, h2, h3, _⟩ := run_append_own (P := P) X base t o.type e i z k bytes ht hi hz hsize hby hzs hk v xs.length (xs.flatMap f) hown ad 0 c [] (by simp) (by simp) (by simp) h63 hbytes hX
      refine Lib.wpList_append_run X hgd s x t t ho v _ hs hy v' w' hrun (h v' w' ?_ (hg.grown h3 fun j hj => Nat.le_trans hA (hblock j hj).1))
      rw [List.append_nil] at h2 ⊢
      exact h2
    | none =>
      have hrun : (Builtin.append_ #[t, t] o.type #[v, .slice none 0 c]).run P X = .ok v X := by
        rcases hown.2 with ⟨rfl, h0⟩ | ⟨g, cap, cur, rfl, hb, hg, hn, hm, hs, hq⟩
        · simp [Builtin.append_, run_underlying ht, sizeOf, typeInfo, zeroValue, hi, hz, Question.forced, run_firstCells_none, Builtin.lenOf]
        · have hcl : ¬ (cap < xs.length) := by omega
          simp [Builtin.append_, run_underlying ht, sizeOf, typeInfo, zeroValue, hi, hz, Question.forced, run_firstCells_none, Builtin.lenOf, hcl, hn, storeCells]
      refine Lib.wpList_append_run X hgd s x t t ho v _ hs hy v X hrun (h v X ?_ hg)
      rw [List.append_nil]
      exact hown
end
end Go
namespace Go.Proofs.Ytleaemeihljlnaa
end Go.Proofs.Ytleaemeihljlnaa
/- The walk of TreeHalves. -/
namespace Go.Proofs.Ytleaemeihljlnaa
set_option linter.unusedVariables false
set_option linter.unusedSimpArgs false
open Go.RowKit
theorem made1 (w : World) (a : Idb) : ShowsI (w.alloc (.cells (iv a.l) 29)) (.slice (some ⟨w.heap.size, 0, none⟩) 1 1) [a] := by
  have h := (OwnE.made Idb.cs_len w w.heap.size 29 [a] (Nat.le_refl _) (by simp [maxLen])).shows Idb.cs_len
  have e1 : ([a].flatMap Idb.cs).toArray = iv a.l := by
    simp only [List.flatMap_cons, List.flatMap_nil, List.append_nil, Idb.cs]
    rfl
  rw [e1] at h
  exact h
theorem made1_g (w : World) (δ : Junk) (a : Idb) : ShowsI ((w.grow δ).alloc (.cells (iv a.l) 29)) (.slice (some ⟨w.heap.size + δ.n, 0, none⟩) 1 1) [a] := by
  have := made1 (w.grow δ) a
  rwa [size_grow] at this
theorem sides10 : sidesOf 1 0 = [] := by
  show (side 1 0).reverse = []
  rw [side_one 1 0 (by omega)]; rfl
theorem chk10 (r : Idb) : chk r 1 0 r [] = true := by
  unfold chk
  rw [sides10]
  have h2 : chkIn 1 0 = true := by decide
  rw [h2]
  simp [ieq, top]
theorem prefix_calls (l : List Idb) (v : Value) (w : World) (hl : l.length ≤ 1000000) (hs : ShowsI w v l) : ∀ W, Grew w W → Calls Try.prog 13 #[v] W fun e w' => e = .returned (.agg (iv (root l).l)) ∧ Grew W w' :=
  fun W g => root_w _ l v W (Nat.le_refl _) hl (hs.grew g)
set_option maxRecDepth 100000 in
set_option maxHeartbeats 6400000 in
theorem treeHalves_walk (q : Option Addr) (c : Nat) (l : List Idb) (hm : l.length ≤ maxLen) (k : Int) (r : Idb) (n i : Int) (w : World) (hs : ShowsI w (.slice q l.length c) l) :
    Calls Try.prog 5 #[.slice q l.length c, .int .i64 k, .agg (iv r.l), .int .i64 n, .int .i64 i] w fun e w' => e = .returned (.bool true) ∧ Grew w w' := by
  have HS := Lib.hid hs
  clear hs hm
  have hrl := r.len
  by_cases h4 : 32 < l.length
  · have h4' : decide (32 < (l.length : Int)) = true := decide_eq_true (by omega)
    go_enter Try.func5, Try.ntmps5
    go_wp2_with (go_at_call 9; refine (awake_w _).mono ?_; rintro e w' ⟨rfl, δ, rfl⟩)
    go_ret
    exact ⟨rfl, (by repeat (first | with_reducible exact Grew.refl _ | with_reducible apply Grew.alloc | with_reducible apply Grew.grow | with_reducible apply Grew.drew | with_reducible apply Grew.drewN))⟩
  obtain ⟨N, hN⟩ : ∃ N, l.length = N := ⟨_, rfl⟩
  have HN := Lib.hid hN
  rw [hN] at HS h4 ⊢
  clear hN
  have h4' : decide (32 < (N : Int)) = false := decide_eq_false (by omega)
  have hNI : (N : Int) ≤ 32 := by omega
  have hall : n < 1 ∨ (¬ n < 1 ∧ 64 < n) ∨ (¬ n < 1 ∧ ¬ 64 < n ∧ i < 0) ∨ (¬ n < 1 ∧ ¬ 64 < n ∧ ¬ i < 0 ∧ n ≤ i) ∨ (¬ n < 1 ∧ ¬ 64 < n ∧ ¬ i < 0 ∧ ¬ n ≤ i) := by omega
  have hchk : (n < 1 ∨ 64 < n ∨ i < 0 ∨ n ≤ i) → chk r n i r [] = false := fun h => chk_out (by omega) r r []
  have hI : (r.l).length = 32 := hrl
  have hcC : ∀ W, Calls Try.prog 17 #[.agg (iv r.l), .int .i64 n, .int .i64 i, .agg (iv r.l), .slice none 0 0] W fun e w' => e = .returned (.bool (chk r n i r [])) ∧ Grew W w' := fun W => check_w r n i r [] _ W (.inr ⟨_, _, rfl, rfl⟩) (by simp)
  have hc1 : ∀ W, Calls Try.prog 17 #[.agg (iv r.l), .int .i64 1, .int .i64 0, .agg (iv r.l), .slice none 0 0] W fun e w' => e = .returned (.bool true) ∧ Grew W w' := fun W => by
    have := check_w r 1 0 r [] _ W (.inr ⟨none, 0, rfl, rfl⟩) (by simp)
    rwa [chk10] at this
  have C1 := Lib.hid hc1
  have hrr : ieq r.l r.l = true := decide_eq_true rfl
  rcases hall with h | h | h | h | h
  all_goals
    have hodd := hchk
    clear hchk
    first
    | (replace hodd := hodd (by omega); rw [hodd] at hcC; clear hodd)
    | clear hodd
    have CC := Lib.hid hcC
    clear hcC hc1
    try obtain ⟨h1, h⟩ := h
    try obtain ⟨h2, h⟩ := h
    try obtain ⟨h3, h⟩ := h
    go_enter Try.func5, Try.ntmps5
    go_wp2_with (go_at_call 9; refine (awake_w _).mono ?_; rintro e w' ⟨rfl, δ, rfl⟩)
    refine code_abs ?_
    intro Y hY
    have gY : Grew w Y := by rw [hY]; exact (by repeat (first | with_reducible exact Grew.refl _ | with_reducible apply Grew.alloc | with_reducible apply Grew.grow | with_reducible apply Grew.drew | with_reducible apply Grew.drewN))
    have rY : Y.rowAt w.heap.size = iv r.l := by rw [hY]; simp [go_sem]
    have zY : w.heap.size < Y.heap.size := by rw [hY]; simp; omega
    have GY := Lib.hid gY
    clear hY gY
    try (have ho : (decide (n < 1) || decide (64 < n) || decide (i < 0) || decide (n ≤ i)) = false := (by (simp only [Bool.or_eq_false_iff, decide_eq_false_iff_not]; omega)); simp only [ho]; clear ho)
    refine wp_region_flow (by kernel_rfl) ?_
    intro δf
    apply wpFlow_quiets [0,1,2,3,4,5] (by decide +kernel) (by decide +kernel) (by kernel_rfl) (by intro _ _ _ d _ h; cases d <;> exact h) _
    · intro A hA δ'
      simp only [pickOps_cons, pickOps_nil, pick1_zero, pick1_succ]
      repeat (go_big_quiet_step ((fail)))
      exact wpQuiet_nil hA.out.symm
    apply wpFlow_quiets [6] (by decide +kernel) (by decide +kernel) (by kernel_rfl) (by intro _ _ _ d _ h; cases d <;> exact h) _
    · intro A hA δ'
      simp only [pickOps_cons, pickOps_nil, pick1_zero, pick1_succ]
      repeat (go_big_quiet_step ((go_at_call 17; (with_reducible first | exact Calls.pure_of_g3 (CC.out _) | exact Calls.pure_of_g4 (CC.out _) | exact Calls.pure_of_g (CC.out _) | exact Calls.pure_of_g5 (CC.out _)))))
      exact wpQuiet_nil hA.out.symm
    apply wpFlow_quiets [7,8,9,12] (by decide +kernel) (by decide +kernel) (by kernel_rfl) (by intro _ _ _ d _ h; cases d <;> exact h) _
    · intro A hA δ'
      simp only [pickOps_cons, pickOps_nil, pick1_zero, pick1_succ]
      repeat (go_big_quiet_step ((fail)))
      exact wpQuiet_nil hA.out.symm
    refine wpFlow_one 10 (by decide +kernel) (by kernel_rfl) (by kernel_rfl) ?_
    refine wpFlowS_intro ?_
    simp only [pickOps_cons, pickOps_nil, pick1_zero, pick1_succ]
    intro δf
    go_wp2_with (fail)
    refine ⟨(by first | assumption | (simp only [grow_grow, Array.append_assoc]; assumption) | exact Grew.refl _ | (simp only [grow_grow, Array.append_assoc]; exact (by repeat (first | with_reducible exact Grew.refl _ | with_reducible apply Grew.alloc | with_reducible apply Grew.grow | with_reducible apply Grew.drew | with_reducible apply Grew.drewN))) | exact (by repeat (first | with_reducible exact Grew.refl _ | with_reducible apply Grew.alloc | with_reducible apply Grew.grow | with_reducible apply Grew.drew | with_reducible apply Grew.drewN))), ?_⟩
    refine flow_abs ?_
    intro Z hZ
    have gZ : Grew Y Z := by rw [hZ]; exact (by repeat (first | with_reducible exact Grew.refl _ | with_reducible apply Grew.alloc | with_reducible apply Grew.grow | with_reducible apply Grew.drew | with_reducible apply Grew.drewN))
    have rZ : Z.rowAt w.heap.size = iv r.l := by rw [Grew.rowAt gZ _ zY]; exact rY
    have zZ : w.heap.size < Z.heap.size := Nat.lt_of_lt_of_le zY gZ.size
    have sZ : ∀ v, (∃ δ : Junk, Z = (Y.grow δ).alloc (.cells (iv r.l) 29) ∧ v = .slice (some ⟨Y.heap.size + δ.n, 0, none⟩) 1 1) → ShowsI Z v [r] := by
      rintro v ⟨δ, h, rfl⟩
      rw [h]
      exact made1_g Y δ r
    have hR : ∀ v, (∃ δ : Junk, Z = (Y.grow δ).alloc (.cells (iv r.l) 29) ∧ v = .slice (some ⟨Y.heap.size + δ.n, 0, none⟩) 1 1) → ∀ W, Grew Z W → Calls Try.prog 13 #[v] W fun e w' => e = .returned (.agg (iv r.l)) ∧ Grew W w' := fun v hv W g => by
      have := root_w 1 [r] v W (Nat.le_refl _) (by simp) ((sZ v hv).grew g)
      rwa [root_one] at this
    have SY := Lib.hid hR
    have HZ := Lib.hid hZ
    have GZ := Lib.hid (GY.out.trans gZ)
    clear gZ hZ sZ hR rY zY
    apply wpFlow_quiets [11] (by decide +kernel) (by decide +kernel) (by kernel_rfl) (by intro _ _ _ d _ h; cases d <;> exact h) _
    · intro A hA δ'
      simp only [pickOps_cons, pickOps_nil, pick1_zero, pick1_succ]
      repeat (go_big_quiet_step ((go_at_call 13; (with_reducible first | exact Calls.pure_of_g3 (SY.out _ ⟨_, HZ.out, rfl⟩ _ (by repeat (first | with_reducible exact Grew.refl _ | with_reducible apply Grew.alloc | with_reducible apply Grew.grow | with_reducible apply Grew.drew | with_reducible apply Grew.drewN))) | exact Calls.pure_of_g4 (SY.out _ ⟨_, HZ.out, rfl⟩ _ (by repeat (first | with_reducible exact Grew.refl _ | with_reducible apply Grew.alloc | with_reducible apply Grew.grow | with_reducible apply Grew.drew | with_reducible apply Grew.drewN))) | exact Calls.pure_of_g (SY.out _ ⟨_, HZ.out, rfl⟩ _ (by repeat (first | with_reducible exact Grew.refl _ | with_reducible apply Grew.alloc | with_reducible apply Grew.grow | with_reducible apply Grew.drew | with_reducible apply Grew.drewN))) | exact Calls.pure_of_g5 (SY.out _ ⟨_, HZ.out, rfl⟩ _ (by repeat (first | with_reducible exact Grew.refl _ | with_reducible apply Grew.alloc | with_reducible apply Grew.grow | with_reducible apply Grew.drew | with_reducible apply Grew.drewN)))))))
      exact wpQuiet_nil hA.out.symm
    apply wpFlow_quiets [13,14,15,16,17] (by decide +kernel) (by decide +kernel) (by kernel_rfl) (by intro _ _ _ d _ h; cases d <;> exact h) _
    · intro A hA δ'
      simp only [pickOps_cons, pickOps_nil, pick1_zero, pick1_succ]
      repeat (go_big_quiet_step ((fail)))
      exact wpQuiet_nil hA.out.symm
    apply wpFlow_quiets [18] (by decide +kernel) (by decide +kernel) (by kernel_rfl) (by intro _ _ _ d _ h; cases d <;> exact h) _
    · intro A hA δ'
      simp only [pickOps_cons, pickOps_nil, pick1_zero, pick1_succ]
      repeat (go_big_quiet_step ((go_at_call 17; (with_reducible first | exact Calls.pure_of_g3 (C1.out _) | exact Calls.pure_of_g4 (C1.out _) | exact Calls.pure_of_g (C1.out _) | exact Calls.pure_of_g5 (C1.out _)))))
      exact wpQuiet_nil hA.out.symm
    apply wpFlow_quiets [19,20] (by decide +kernel) (by decide +kernel) (by kernel_rfl) (by intro _ _ _ d _ h; cases d <;> exact h) _
    · intro A hA δ'
      simp only [pickOps_cons, pickOps_nil, pick1_zero, pick1_succ]
      repeat (go_big_quiet_step ((fail)))
      exact wpQuiet_nil hA.out.symm
    refine wpFlow_end (by decide +kernel) (by kernel_rfl) ?_
    intro δf
    go_wp2
    have hB0 : (1 : Int) = ((2 ^ 0 : Nat) : Int) := rfl
    clear C1 CC SY HZ hrr rZ zZ
    refine code_abs ?_
    intro V hV
    have gV : Grew w V := by rw [hV]; exact GZ.out.trans (by repeat (first | with_reducible exact Grew.refl _ | with_reducible apply Grew.alloc | with_reducible apply Grew.grow | with_reducible apply Grew.drew | with_reducible apply Grew.drewN))
    have GV := Lib.hid gV
    clear gV hV GZ GY
    go_loopw [13, 14] (fun b j wr => ∃ e : Nat, e ≤ 5 ∧ b = .int .i64 ((2 ^ e : Nat) : Int) ∧ j = .int .i64 e ∧ Grew V wr) (fun b j _ => 5 - (intOf j).toNat)
    case atStart => exact ⟨0, by omega, rfl, rfl, Grew.refl _⟩
    case round =>
      obtain ⟨e, he, rfl, rfl, g⟩ := hrel
      have HG := Lib.hid g
      clear g
      have hp1 : 2 ^ e ≤ 2 ^ 5 := Nat.pow_le_pow_right (by omega) he
      have hp2 : 2 ^ (e + 1) = 2 * 2 ^ e := by rw [Nat.pow_succ]; omega
      have hp3 : e < 5 → 2 ^ e ≤ 2 ^ 4 := fun h => Nat.pow_le_pow_right (by omega) (by omega)
      have hp4 : e = 5 → 2 ^ e = 32 := fun h => by rw [h]
      obtain ⟨B, hB⟩ : ∃ B, 2 ^ e = B := ⟨_, rfl⟩
      rw [hB] at hp1 hp2 hp3 hp4
      have HB := Lib.hid hB
      have HP := Lib.hid hp2
      simp only [hB]
      clear hB hp2
      by_cases hk : (e : Int) < k ∧ e < 5
      · obtain ⟨hk1, hk2⟩ := hk
        have hb1 : (B : Int) < 32 := by have := hp3 hk2; omega
        have hb2 : (2 * (B : Int)) = ((2 ^ (e + 1) : Nat) : Int) := by rw [HP.out]; omega
        have he5 : (e : Int) < 5 := by omega
        have HQ := Lib.hid hb2
        clear hp1 hp3 hp4 hb2 hB0
        go_wp2
        exact ⟨⟨e + 1, by omega, by rw [HQ.out], by go_num, HG.out⟩, by simp only [intOf]; omega⟩
      · have hout : ¬ (e : Int) < k ∨ ((e : Int) < k ∧ ¬ (B : Int) < 32) := by
          by_cases h1 : (e : Int) < k
          · exact .inr ⟨h1, by have := hp4 (by omega); omega⟩
          · exact .inl h1
        clear hk hp3 hp4
        have hbI : (B : Int) ≤ 32 := by omega
        have hb1 : 1 ≤ (B : Int) := by have := Nat.one_le_two_pow (n := e); rw [HB.out] at this; omega
        have cases3 : (N : Int) < B ∨ (¬ (N : Int) < B ∧ 2 * (B : Int) < N) ∨ (¬ (N : Int) < B ∧ ¬ 2 * (B : Int) < N ∧ (N : Int) = B) ∨ (¬ (N : Int) < B ∧ ¬ 2 * (B : Int) < N ∧ ¬ (N : Int) = B) := by omega
        have HG2 := Lib.hid (GV.out.trans HG.out)
        clear hp1 GV HG hB0
        rcases cases3 with c1 | ⟨c1, c2⟩ | ⟨c1, c2, c3⟩ | ⟨c1, c2, c3⟩
        rotate_left 3
        · have hs := HS.out
          have hN := HN.out
          rw [← hN] at hs
          obtain ⟨b, o, rfl, _, hc, hb, hat⟩ := showsI_some hs (by omega)
          rw [hN] at hs hc
          have hh := half_uniq N e (by omega) (by omega) (by rw [HB.out]; omega) (by rw [HB.out]; omega)
          rw [HB.out] at hh
          have hcut := root_cut l (by omega) (by omega)
          rw [hN, ← hh] at hcut
          have p1 : ShowsI w (.slice (some ⟨b, o, none⟩) B c) (l.take B) := by
            have := showsI_part (o := o) hb hat 0 B c (by omega) (by omega)
            simpa using this
          have p2 : ShowsI w (.slice (some ⟨b, o + B * 32, none⟩) (N - B) (c - B)) (l.drop B) := by
            have := showsI_part (o := o) hb hat B (N - B) (c - B) (by omega) (by omega)
            rwa [List.take_of_length_le (by rw [List.length_drop]; omega)] at this
          have K0 := Lib.hid (prefix_calls l _ w (by omega) hs)
          have K1 := Lib.hid (prefix_calls _ _ w (by rw [List.length_take]; omega) p1)
          have K2 := Lib.hid (prefix_calls _ _ w (by rw [List.length_drop]; omega) p2)
          have hx1 := (root (l.take B)).len
          have hx2 := (root (l.drop B)).len
          have hx0 := (root l).len
          obtain ⟨ra, hA⟩ : ∃ A, root (l.take B) = A := ⟨_, rfl⟩
          obtain ⟨rb, hB⟩ : ∃ A, root (l.drop B) = A := ⟨_, rfl⟩
          obtain ⟨rc, hC⟩ : ∃ A, root l = A := ⟨_, rfl⟩
          rw [hA] at K1 hcut hx1
          rw [hB] at K2 hcut hx2
          rw [hC] at K0 hcut hx0
          have hnl := (ra.node rb).len
          have heq : ieq rc.l (ra.node rb).l = true := decide_eq_true (by rw [hcut])
          have k1 : (B : Int) ≤ (c : Int) := by omega
          have k2 : (B : Int) ≤ (N : Int) := by omega
          have k3 : ¬ c = B := by omega
          clear hs hN hc hb hat hh hcut p1 p2 hA hB hC HB HP HN HS
          refine code_abs ?_
          intro Y hY
          have GY := Lib.hid (show Grew w Y by rw [hY]; exact HG2.out)
          clear hY HG2
          rcases hout with hout | ⟨ho1, ho2⟩
          rotate_left
          · exfalso; omega
          · go_wp2
            refine wp_region_flow (by kernel_rfl) ?_
            intro δf
            apply wpFlow_quiets [0] (by decide +kernel) (by decide +kernel) (by kernel_rfl) (by intro _ _ _ d _ h; cases d <;> exact h) _
            · intro A hA δ'
              simp only [pickOps_cons, pickOps_nil, pick1_zero, pick1_succ]
              repeat (go_big_quiet_step ((fail)))
              exact wpQuiet_nil hA.out.symm
            apply wpFlow_quiets [1] (by decide +kernel) (by decide +kernel) (by kernel_rfl) (by intro _ _ _ d _ h; cases d <;> exact h) _
            · intro A hA δ'
              simp only [pickOps_cons, pickOps_nil, pick1_zero, pick1_succ]
              repeat (go_big_quiet_step ((go_at_call 13; (with_reducible first | exact Calls.pure_of_g3 (K0.out _ (GY.out.trans (by repeat (first | with_reducible exact Grew.refl _ | with_reducible apply Grew.alloc | with_reducible apply Grew.grow | with_reducible apply Grew.drew | with_reducible apply Grew.drewN)))) | exact Calls.pure_of_g4 (K0.out _ (GY.out.trans (by repeat (first | with_reducible exact Grew.refl _ | with_reducible apply Grew.alloc | with_reducible apply Grew.grow | with_reducible apply Grew.drew | with_reducible apply Grew.drewN)))) | exact Calls.pure_of_g (K0.out _ (GY.out.trans (by repeat (first | with_reducible exact Grew.refl _ | with_reducible apply Grew.alloc | with_reducible apply Grew.grow | with_reducible apply Grew.drew | with_reducible apply Grew.drewN)))) | exact Calls.pure_of_g5 (K0.out _ (GY.out.trans (by repeat (first | with_reducible exact Grew.refl _ | with_reducible apply Grew.alloc | with_reducible apply Grew.grow | with_reducible apply Grew.drew | with_reducible apply Grew.drewN))))))))
              exact wpQuiet_nil hA.out.symm
            apply wpFlow_quiets [2,3,4] (by decide +kernel) (by decide +kernel) (by kernel_rfl) (by intro _ _ _ d _ h; cases d <;> exact h) _
            · intro A hA δ'
              simp only [pickOps_cons, pickOps_nil, pick1_zero, pick1_succ]
              repeat (go_big_quiet_step ((fail)))
              exact wpQuiet_nil hA.out.symm
            apply wpFlow_quiets [5] (by decide +kernel) (by decide +kernel) (by kernel_rfl) (by intro _ _ _ d _ h; cases d <;> exact h) _
            · intro A hA δ'
              simp only [pickOps_cons, pickOps_nil, pick1_zero, pick1_succ]
              repeat (go_big_quiet_step ((go_at_call 13; (with_reducible first | exact Calls.pure_of_g3 (K1.out _ (GY.out.trans (by repeat (first | with_reducible exact Grew.refl _ | with_reducible apply Grew.alloc | with_reducible apply Grew.grow | with_reducible apply Grew.drew | with_reducible apply Grew.drewN)))) | exact Calls.pure_of_g4 (K1.out _ (GY.out.trans (by repeat (first | with_reducible exact Grew.refl _ | with_reducible apply Grew.alloc | with_reducible apply Grew.grow | with_reducible apply Grew.drew | with_reducible apply Grew.drewN)))) | exact Calls.pure_of_g (K1.out _ (GY.out.trans (by repeat (first | with_reducible exact Grew.refl _ | with_reducible apply Grew.alloc | with_reducible apply Grew.grow | with_reducible apply Grew.drew | with_reducible apply Grew.drewN)))) | exact Calls.pure_of_g5 (K1.out _ (GY.out.trans (by repeat (first | with_reducible exact Grew.refl _ | with_reducible apply Grew.alloc | with_reducible apply Grew.grow | with_reducible apply Grew.drew | with_reducible apply Grew.drewN))))))))
              exact wpQuiet_nil hA.out.symm
            apply wpFlow_quiets [6,7,8] (by decide +kernel) (by decide +kernel) (by kernel_rfl) (by intro _ _ _ d _ h; cases d <;> exact h) _
            · intro A hA δ'
              simp only [pickOps_cons, pickOps_nil, pick1_zero, pick1_succ]
              repeat (go_big_quiet_step ((fail)))
              exact wpQuiet_nil hA.out.symm
            apply wpFlow_quiets [9] (by decide +kernel) (by decide +kernel) (by kernel_rfl) (by intro _ _ _ d _ h; cases d <;> exact h) _
            · intro A hA δ'
              simp only [pickOps_cons, pickOps_nil, pick1_zero, pick1_succ]
              repeat (go_big_quiet_step ((go_at_call 13; (with_reducible first | exact Calls.pure_of_g3 (K2.out _ (GY.out.trans (by repeat (first | with_reducible exact Grew.refl _ | with_reducible apply Grew.alloc | with_reducible apply Grew.grow | with_reducible apply Grew.drew | with_reducible apply Grew.drewN)))) | exact Calls.pure_of_g4 (K2.out _ (GY.out.trans (by repeat (first | with_reducible exact Grew.refl _ | with_reducible apply Grew.alloc | with_reducible apply Grew.grow | with_reducible apply Grew.drew | with_reducible apply Grew.drewN)))) | exact Calls.pure_of_g (K2.out _ (GY.out.trans (by repeat (first | with_reducible exact Grew.refl _ | with_reducible apply Grew.alloc | with_reducible apply Grew.grow | with_reducible apply Grew.drew | with_reducible apply Grew.drewN)))) | exact Calls.pure_of_g5 (K2.out _ (GY.out.trans (by repeat (first | with_reducible exact Grew.refl _ | with_reducible apply Grew.alloc | with_reducible apply Grew.grow | with_reducible apply Grew.drew | with_reducible apply Grew.drewN))))))))
              exact wpQuiet_nil hA.out.symm
            apply wpFlow_quiets [10] (by decide +kernel) (by decide +kernel) (by kernel_rfl) (by intro _ _ _ d _ h; cases d <;> exact h) _
            · intro A hA δ'
              simp only [pickOps_cons, pickOps_nil, pick1_zero, pick1_succ]
              repeat (go_big_quiet_step ((go_at_call 19; (with_reducible first | exact Calls.pure_of_g3 (node_w ra rb _) | exact Calls.pure_of_g4 (node_w ra rb _) | exact Calls.pure_of_g (node_w ra rb _) | exact Calls.pure_of_g5 (node_w ra rb _)))))
              exact wpQuiet_nil hA.out.symm
            apply wpFlow_quiets [11,12] (by decide +kernel) (by decide +kernel) (by kernel_rfl) (by intro _ _ _ d _ h; cases d <;> exact h) _
            · intro A hA δ'
              simp only [pickOps_cons, pickOps_nil, pick1_zero, pick1_succ]
              repeat (go_big_quiet_step ((fail)))
              exact wpQuiet_nil hA.out.symm
            refine wpFlow_end (by decide +kernel) (by kernel_rfl) ?_
            intro δf
            go_wp2
            go_ret
            exact ⟨rfl, GY.out.trans (by repeat (first | with_reducible exact Grew.refl _ | with_reducible apply Grew.alloc | with_reducible apply Grew.grow | with_reducible apply Grew.drew | with_reducible apply Grew.drewN))⟩
        all_goals
          rcases hout with hout | ⟨ho1, ho2⟩
          all_goals
            clear HP
            go_wp2
            go_ret
            exact ⟨rfl, HG2.out⟩
end Go.Proofs.Ytleaemeihljlnaa
/- Paths lead to the root; they are no longer than the tree is high. No program in sight. -/
namespace Go.Proofs.Ytleaemeihljlnaa
set_option linter.unusedVariables false
set_option linter.unusedSimpArgs false
theorem half_pow (n h : Nat) (h2 : 2 ≤ n) (hn : n ≤ 1099511627776) (hp : n ≤ 2 ^ h) : 1 ≤ h ∧ halfN n ≤ 2 ^ (h - 1) := by
  have hs := half_sand n h2 hn
  have e : halfN n = 2 ^ hexp n := rfl
  have hlt : 2 ^ hexp n < 2 ^ h := by omega
  have h3 := (Nat.pow_lt_pow_iff_right (by omega : 1 < 2)).1 hlt
  exact ⟨by omega, by rw [e]; exact Nat.pow_le_pow_right (by omega) (by omega)⟩
theorem side_high : ∀ (f n i h : Nat), n ≤ f → n ≤ 1099511627776 → n ≤ 2 ^ h → (side n i).length ≤ h
  | 0, n, i, h, hf, _, _ => by rw [side_one n i (by omega)]; simp
  | f + 1, n, i, h, hf, hb, hp => by
    rcases Nat.lt_or_ge n 2 with h2 | h2
    · rw [side_one n i (by omega)]; simp
    · have hs := half_sand n h2 hb
      have hps := half_pos n
      obtain ⟨h1, h3⟩ := half_pow n h h2 hb hp
      by_cases hi : i < halfN n
      · rw [side_left n i h2 hb hi, List.length_cons]
        have := side_high f (halfN n) i (h - 1) (by omega) (by omega) h3
        omega
      · rw [side_right n i h2 hb hi, List.length_cons]
        have := side_high f (n - halfN n) (i - halfN n) (h - 1) (by omega) (by omega) (by omega)
        omega
/-- A leaf's path leads to the root. -/
theorem top_path : ∀ (f : Nat) (ls : List Idb) (i : Nat) (x : Idb), ls.length ≤ f → ls.length ≤ 1099511627776 → ls[i]? = some x → top (side ls.length i).reverse x (path ls i) = root ls
  | 0, ls, i, x, hf, _, hx => by
    obtain rfl : ls = [] := List.length_eq_zero_iff.1 (by omega)
    simp at hx
  | f + 1, ls, i, x, hf, hb, hx => by
    have hi := (List.getElem?_eq_some_iff.1 hx).1
    rcases Nat.lt_or_ge ls.length 2 with h2 | h2
    · rw [side_one _ i (by omega), path_one ls i (by omega)]
      obtain ⟨y, rfl⟩ : ∃ y, ls = [y] := by
        match ls, h2, hi with
        | [y], _, _ => exact ⟨y, rfl⟩
      obtain rfl : i = 0 := by simp at hi; omega
      rw [root_one]
      simp only [List.getElem?_cons_zero, Option.some.injEq] at hx
      simp [top, hx]
    · have hs := half_sand ls.length h2 hb
      have hp := half_pos ls.length
      obtain ⟨k, hk⟩ : ∃ k, halfN ls.length = k := ⟨_, rfl⟩
      by_cases hik : i < halfN ls.length
      · have ht : (ls.take k).length = k := by rw [List.length_take]; omega
        have hr := top_path f (ls.take k) i x (by omega) (by omega) (by rw [List.getElem?_take, if_pos (by omega)]; exact hx)
        have hl := path_len (ls.take k) i (by omega)
        rw [ht] at hr hl
        rw [side_left _ i h2 hb hik, path_left ls i h2 hb hik, List.reverse_cons, hk, top_snoc _ _ _ _ _ (by rw [List.length_reverse, hl]), hr, root_cut ls h2 hb, hk]
        rfl
      · have ht : (ls.drop k).length = ls.length - k := by rw [List.length_drop]
        have hr := top_path f (ls.drop k) (i - k) x (by omega) (by omega) (by rw [List.getElem?_drop, show k + (i - k) = i by omega]; exact hx)
        have hl := path_len (ls.drop k) (i - k) (by omega)
        rw [ht] at hr hl
        rw [side_right _ i h2 hb hik, path_right ls i h2 hb hik, List.reverse_cons, hk, top_snoc _ _ _ _ _ (by rw [List.length_reverse, hl]), hr, root_cut ls h2 hb, hk]
        rfl
/-- The path of a leaf checks. -/
theorem chk_path (ls : List Idb) (i : Nat) (x : Idb) (hb : ls.length ≤ 64) (hx : ls[i]? = some x) : chk (root ls) (ls.length : Nat) (i : Nat) x (path ls i) = true := by
  have hi := (List.getElem?_eq_some_iff.1 hx).1
  have ht := top_path ls.length ls i x (Nat.le_refl _) (by omega) hx
  have hl := path_len ls i (by omega)
  have hs : sidesOf (ls.length : Nat) (i : Nat) = (side ls.length i).reverse := rfl
  unfold chk chkIn
  rw [hs, ht, decide_eq_true (show 1 ≤ ((ls.length : Nat) : Int) ∧ ((ls.length : Nat) : Int) ≤ 64 ∧ 0 ≤ ((i : Nat) : Int) ∧ ((i : Nat) : Int) < (ls.length : Nat) by omega), List.length_reverse, hl, decide_eq_true rfl]
  simp [ieq]
/-- A path of another length does not. -/
theorem chk_short (r : Idb) (n i : Nat) (x : Idb) (p : List Idb) (h : (side n i).length ≠ p.length) : chk r (n : Nat) (i : Nat) x p = false := by
  have hs : sidesOf (n : Nat) (i : Nat) = (side n i).reverse := rfl
  unfold chk
  rw [hs, List.length_reverse, decide_eq_false h, Bool.false_and, Bool.and_false]
end Go.Proofs.Ytleaemeihljlnaa
/- Pairs of ids by '=='; the first step at which two climbs meet. -/
namespace Go.Proofs.Ytleaemeihljlnaa
set_option linter.unusedVariables false
set_option linter.unusedSimpArgs false
open Go.RowKit
theorem equal_id' (d : Nat) (a b : List Nat) (ha : a.length = 32) (hb : b.length = 32) (w : World) : (Op.equalIn (d + 2) 29 (.agg (iv a)) (.agg (iv b))).run Try.prog w = .ok (ieq a b) w := by
  have e : ∀ l : List Nat, iv l = ((l.map fun (c : Nat) => (c : Int)).map (Value.int .u8)).toArray := fun l => by simp [iv]
  rw [e, e, run_equalIn_ints w d under_id Try.underlying5 (by kernel_rfl) _ _ (by simp [ha]) (by simp [hb])]
  congr 1
  unfold ieq
  rw [Bool.eq_iff_iff, decide_eq_true_eq, decide_eq_true_eq]
  constructor
  · intro h
    refine (List.map_inj_right ?_).1 h
    intro x y e
    omega
  · intro h; rw [h]
theorem part_id (w : World) (xs : Array Value) (off : Nat) : (part 29 xs off).run Try.prog w = .ok (.agg (xs.extract off (off + 32))) w := by
  obtain ⟨i, hi, _, hs, _⟩ := info_id
  have hz : (sizeOf 29).run Try.prog w = .ok 32 w := by simp [sizeOf, typeInfo, hi, hs]
  have ha : (isAgg 29).run Try.prog w = .ok true w := by simp [isAgg, run_underlying under_id]
  unfold part
  simp [Sem.run_bind, ha, hz]
theorem ext_lo (a b : List Nat) (ha : a.length = 32) (hb : b.length = 32) : (iv (pair a b)).extract 0 (0 + 32) = iv a := by
  refine arr_ext ?_
  rw [Array.toList_extract]
  simp [iv, pair, ha, List.take_append, List.map_append]
theorem ext_hi (a b : List Nat) (ha : a.length = 32) (hb : b.length = 32) : (iv (pair a b)).extract 32 (32 + 32) = iv b := by
  refine arr_ext ?_
  rw [Array.toList_extract]
  simp only [iv, pair, ha, List.drop_append, List.map_append, List.extract]
  have h1 : (List.map (fun (c : Nat) => Value.int .u8 c) a).drop 32 = [] := List.drop_of_length_le (by simp [ha])
  simp [h1, ha]
  exact List.take_of_length_le (by simp [hb])
/-- Are two pairs the same? -/
def peq (p q : Idb × Idb) : Bool := ieq p.1.l q.1.l && ieq p.2.l q.2.l
theorem equal_pair (p q : Idb × Idb) (w : World) : (Op.equalIn 10000 57 (.agg (iv (pair p.1.l p.2.l))) (.agg (iv (pair q.1.l q.2.l)))).run Try.prog w = .ok (peq p q) w := by
  obtain ⟨i, hi, _, hs, _⟩ := info_id
  have hc : Try.prog.cellsOf 29 = 32 := by kernel_rfl
  rw [show (10000 : Nat) = 9999 + 1 from rfl, run_equalIn_array w 9999 _ _ under_pair hi, hc]
  have hr : List.range 2 = [0, 1] := rfl
  rw [hr]
  simp only [Op.eqItems, Sem.run_bind, part_id, Result.andThen_ok, Nat.zero_mul, Nat.one_mul, ext_lo _ _ p.1.len p.2.len, ext_lo _ _ q.1.len q.2.len, ext_hi _ _ p.1.len p.2.len, ext_hi _ _ q.1.len q.2.len]
  rw [show (9999 : Nat) = 9997 + 2 from rfl, equal_id' _ _ _ p.1.len q.1.len, Result.andThen_ok]
  unfold peq
  cases ieq p.1.l q.1.l
  · simp
  · simp only [if_true, Bool.not_true, Bool.false_eq_true, if_false, Sem.run_bind]
    simp only [part_id, Result.andThen_ok, ext_hi _ _ p.1.len p.2.len, ext_hi _ _ q.1.len q.2.len]
    rw [equal_id' _ _ _ p.2.len q.2.len, Result.andThen_ok]
    cases ieq p.2.l q.2.l <;> simp [Op.eqItems]
theorem idb_ext {a b : Idb} (h : a.l = b.l) : a = b := by cases a; cases b; cases h; rfl
theorem peq_iff (p q : Idb × Idb) : peq p q = true ↔ p = q := by
  unfold peq ieq
  rw [Bool.and_eq_true, decide_eq_true_eq, decide_eq_true_eq]
  constructor
  · rintro ⟨h1, h2⟩
    obtain ⟨p1, p2⟩ := p
    obtain ⟨q1, q2⟩ := q
    have e1 : p1 = q1 := idb_ext h1
    have e2 : p2 = q2 := idb_ext h2
    rw [e1, e2]
  · rintro rfl; exact ⟨rfl, rfl⟩
/-- The first step at which two climbs meet. -/
structure Meets (ss : List Nat) (x : Idb) (xs : List Idb) (y : Idb) (ys : List Idb) (K : Nat) : Prop where
  lt : K < ss.length
  hit : topk ss x xs (K + 1) = topk ss y ys (K + 1)
  apart : ∀ k, k ≤ K → topk ss x xs k ≠ topk ss y ys k
theorem meets_some (ss : List Nat) (x : Idb) (xs : List Idb) (y : Idb) (ys : List Idb) (hne : x ≠ y) (hx : ss.length = xs.length) (hy : ss.length = ys.length) (h : top ss x xs = top ss y ys) : ∃ K, Meets ss x xs y ys K := by
  have h0 : topk ss x xs 0 ≠ topk ss y ys 0 := by
    unfold topk
    simp only [List.take_zero]
    simpa [top] using hne
  have hS : topk ss x xs ss.length = topk ss y ys ss.length := by rw [(prsk_all ss x xs hx).2, (prsk_all ss y ys hy).2, h]
  have go : ∀ n, n ≤ ss.length → (∀ k, k ≤ n → topk ss x xs k ≠ topk ss y ys k) ∨ ∃ K, Meets ss x xs y ys K := by
    intro n
    induction n with
    | zero => exact fun _ => .inl fun k hk => by obtain rfl : k = 0 := by omega
                                                 exact h0
    | succ n ih =>
      intro hn
      rcases ih (by omega) with h1 | h1
      · by_cases he : topk ss x xs (n + 1) = topk ss y ys (n + 1)
        · exact .inr ⟨n, by omega, he, h1⟩
        · refine .inl fun k hk => ?_
          rcases Nat.lt_or_ge k (n + 1) with h2 | h2
          · exact h1 k (by omega)
          · obtain rfl : k = n + 1 := by omega
            exact he
      · exact .inr h1
  rcases go ss.length (Nat.le_refl _) with h1 | h1
  · exact absurd hS (h1 _ (Nat.le_refl _))
  · exact h1
/-- What Node sums at step 'k' of a climb. -/
def prk (ss : List Nat) (x : Idb) (xs : List Idb) (k : Nat) (s : Nat) (z : Idb) : Idb × Idb := pr s (topk ss x xs k) z
theorem pr_apart {s : Nat} (hs : s = 0 ∨ s = 1) {a b z u : Idb} (h : a ≠ b) : pr s a z ≠ pr s b u := by
  rcases hs with rfl | rfl
  · intro e; exact h (congrArg Prod.fst e)
  · intro e; exact h (congrArg Prod.snd e)
theorem prs_at (ss : List Nat) (x : Idb) (xs : List Idb) (k s : Nat) (z : Idb) (hl : ss.length = xs.length) (h1 : ss[k]? = some s) (h2 : xs[k]? = some z) : (prs ss x xs)[k]? = some (pr s (topk ss x xs k) z) := by
  have go : ∀ (n : Nat), n ≤ ss.length → k < n → (prsk ss x xs n)[k]? = some (pr s (topk ss x xs k) z) := by
    intro n
    induction n with
    | zero => intro _ h; omega
    | succ n ih =>
      intro hn hk
      obtain ⟨s', hs'⟩ : ∃ s', ss[n]? = some s' := ⟨_, List.getElem?_eq_getElem (by omega)⟩
      obtain ⟨z', hz'⟩ : ∃ s', xs[n]? = some s' := ⟨_, List.getElem?_eq_getElem (by omega)⟩
      have hst := (stepk ss x xs n s' z' hl hs' hz').1
      have hlen := prsk_len ss x xs n hl (by omega)
      rw [hst]
      rcases Nat.lt_or_ge k n with h | h
      · rw [List.getElem?_append_left (by omega)]
        exact ih (by omega) h
      · obtain rfl : k = n := by omega
        rw [List.getElem?_append_right (by omega), hlen, Nat.sub_self]
        rw [hs'] at h1
        rw [hz'] at h2
        cases h1; cases h2
        rfl
  have hk := (List.getElem?_eq_some_iff.1 h1).1
  have := go ss.length (Nat.le_refl _) hk
  rwa [(prsk_all ss x xs hl).1] at this
end Go.Proofs.Ytleaemeihljlnaa
/- tree's Clash, where there is none. -/
namespace Go.Proofs.Ytleaemeihljlnaa
set_option linter.unusedVariables false
set_option linter.unusedSimpArgs false
open Go.RowKit
theorem load_pairm {w : World} {b o : Nat} {p : Idb × Idb} (h : w.rangeAt b o (pcs p)) : (rowLoad 57 (.pointer (some ⟨b, o, none⟩))).run Try.prog w = .ok (.value (.agg (iv (pair p.1.l p.2.l)))) w := by
  unfold rowLoad
  rw [Sem.run_bind, run_loadAt_mid w b o 57 (pcs p) _ h under_pair rfl (by rw [pcs_len]; kernel_rfl)]
  rfl
theorem pcs_split (p : Idb × Idb) : pcs p = p.1.cs ++ p.2.cs := by unfold pcs Idb.cs; rw [pair, bys_append]
theorem range_lo {w : World} {b o : Nat} {p : Idb × Idb} (h : w.rangeAt b o (pcs p)) : w.rangeAt b o p.1.cs := fun j v hj => by
  refine h j v ?_
  rw [pcs_split, List.getElem?_append_left (List.getElem?_eq_some_iff.1 hj).1]
  exact hj
theorem range_hi {w : World} {b o : Nat} {p : Idb × Idb} (h : w.rangeAt b o (pcs p)) : w.rangeAt b (o + 32) p.2.cs := fun j v hj => by
  have := h (32 + j) v (by
    rw [pcs_split, List.getElem?_append_right (by rw [Idb.cs_len]; omega), Idb.cs_len, show 32 + j - 32 = j by omega]
    exact hj)
  rwa [← Nat.add_assoc] at this
@[go_sem] theorem guard_pair : Try.prog.eqGuardType Try.prog.depth 57 = false := by kernel_rfl
@[go_sem] theorem equal_pair' (a b c d : Idb) (w : World) : (Op.equalIn 10000 57 (.agg (iv (pair a.l b.l))) (.agg (iv (pair c.l d.l)))).run Try.prog w = .ok (peq (a, b) (c, d)) w := equal_pair (a, b) (c, d) w
theorem roots_of (l : List Idb) (v : Value) (w : World) (hl : l.length ≤ 1000000) (hs : ShowsI w v l) : ∀ W, Grew w W → Calls Try.prog 13 #[v] W fun e w' => e = .returned (.agg (iv (root l).l)) ∧ Grew W w' :=
  fun W g => root_w _ l v W (Nat.le_refl _) hl (hs.grew g)
/-- Is there something to tell? -/
structure ClashAt (ls : List Idb) (i : Int) (leaf : Idb) (xs : List Idb) (j : Nat) (x : Idb) : Prop where
  at_ : i = (j : Int)
  few : ls.length ≤ 64
  is : ls[j]? = some x
  other : leaf ≠ x
  checks : chk (root ls) (ls.length : Nat) (j : Nat) leaf xs = true
theorem clash_cases (ls : List Idb) (i : Int) (leaf : Idb) (xs : List Idb) : (∃ j x, ClashAt ls i leaf xs j x) ∨ (pathOk ls i = false ∨ ∃ (j : Nat) (x : Idb), i = j ∧ ls.length ≤ 64 ∧ ls[j]? = some x ∧ (leaf = x ∨ (leaf ≠ x ∧ chk (root ls) (ls.length : Nat) (j : Nat) leaf xs = false))) := by
  cases hp : pathOk ls i
  · exact .inr (.inl rfl)
  · have h := of_decide_eq_true hp
    obtain ⟨j, rfl⟩ : ∃ j : Nat, i = (j : Int) := ⟨i.toNat, by omega⟩
    obtain ⟨x, hx⟩ : ∃ x, ls[j]? = some x := ⟨_, List.getElem?_eq_getElem (by omega)⟩
    by_cases he : leaf = x
    · exact .inr (.inr ⟨j, x, rfl, h.1, hx, .inl he⟩)
    · cases hc : chk (root ls) (ls.length : Nat) (j : Nat) leaf xs
      · exact .inr (.inr ⟨j, x, rfl, h.1, hx, .inr ⟨he, hc⟩⟩)
      · exact .inl ⟨j, x, rfl, h.1, hx, he, hc⟩
theorem ieq_ne {a b : Idb} (h : a ≠ b) : ieq a.l b.l = false := decide_eq_false fun e => h (idb_ext e)
set_option maxRecDepth 100000 in
set_option maxHeartbeats 6400000 in
theorem clash_none (ls : List Idb) (i : Int) (leaf : Idb) (xs : List Idb) (v1 v2 : Value) (w : World) (h1 : ShowsI w v1 ls) (h2 : ShowsI w v2 xs) (hx : xs.length ≤ 1000000)
    (h : pathOk ls i = false ∨ ∃ (j : Nat) (x : Idb), i = j ∧ ls.length ≤ 64 ∧ ls[j]? = some x ∧ (leaf = x ∨ (leaf ≠ x ∧ chk (root ls) (ls.length : Nat) (j : Nat) leaf xs = false))) :
    Calls Try.prog 22 #[v1, .int .i64 i, .agg (iv leaf.l), v2] w fun e w' => e = .returned (.tuple #[.slice none 0 0, .slice none 0 0, .bool false]) ∧ Grew w w' := by
  obtain ⟨p1, c1, rfl⟩ := showsI_form h1
  obtain ⟨p2, c2, rfl⟩ := showsI_form h2
  have H1 := Lib.hid h1
  have H2 := Lib.hid h2
  clear h1 h2
  have hll := leaf.len
  have CP := Lib.hid (fun W (g : Grew w W) => path_w ls i (.slice p1 ls.length c1) W (H1.out.grew g))
  obtain ⟨N, hN⟩ : ∃ N, ls.length = N := ⟨_, rfl⟩
  have HN := Lib.hid hN
  have HX := Lib.hid hx
  clear hx
  rcases h with hp | ⟨j, x, rfl, hl, hxj, h⟩
  · rw [hp] at CP
    rw [hN] at CP ⊢
    clear hN hp
    go_enter Try.func22, Try.ntmps22
    go_wp2_with (go_at_call 10; refine stop_of ?_)
    unfold Stop
    refine (CP.out _ (by repeat (first | with_reducible exact Grew.refl _ | with_reducible apply Grew.alloc | with_reducible apply Grew.grow | with_reducible apply Grew.drew | with_reducible apply Grew.drewN))).mono ?_
    rintro e W1 ⟨v3, rfl, ho, hg⟩
    have GW := Lib.hid ((show Grew w _ from (by repeat (first | with_reducible exact Grew.refl _ | with_reducible apply Grew.alloc | with_reducible apply Grew.grow | with_reducible apply Grew.drew | with_reducible apply Grew.drewN))).trans hg)
    clear ho hg CP
    go_wp2
    refine wp_region_flow (by kernel_rfl) ?_
    intro δf
    apply wpFlow_quiets [0,1,2,3,4,5,6,7,8,9,10,11,12,13,14,15,16,17,18,19,20] (by decide +kernel) (by decide +kernel) (by kernel_rfl) (by intro _ _ _ d _ h; cases d <;> exact h) _
    · intro A hA δ'
      simp only [pickOps_cons, pickOps_nil, pick1_zero, pick1_succ]
      repeat (go_big_quiet_step ((fail)))
      exact wpQuiet_nil hA.out.symm
    refine wpFlow_end (by decide +kernel) (by kernel_rfl) ?_
    intro δf
    go_wp2
    go_ret3
    exact ⟨rfl, GW.out.trans (by repeat (first | with_reducible exact Grew.refl _ | with_reducible apply Grew.alloc | with_reducible apply Grew.grow | with_reducible apply Grew.drew | with_reducible apply Grew.drewN))⟩
  · have hj := (List.getElem?_eq_some_iff.1 hxj).1
    have hp : pathOk ls (j : Int) = true := decide_eq_true (by omega)
    have hxl := x.len
    rw [hp] at CP
    have hs := H1.out
    obtain ⟨b, o, rfl, _, hcc, hb, hat⟩ := showsI_some hs (by omega)
    have QL := Lib.hid (fun W (g : Grew w W) δ => load_idg (World.rangeAt.grew (hat j x hxj) g) δ)
    have CR := Lib.hid (roots_of ls _ w (by omega) hs)
    have CC := Lib.hid (fun W (g : Grew w W) => check_w (root ls) (ls.length : Nat) (j : Nat) leaf xs (.slice p2 xs.length c2) W (H2.out.grew g) HX.out)
    have hrl := (root ls).len
    rw [hN] at CP CR CC ⊢
    have hjN : (j : Int) < (N : Int) := by omega
    have hb2 : b < w.heap.size := hb
    rcases h with rfl | ⟨hne, hck⟩
    · have e1 : ieq leaf.l leaf.l = true := decide_eq_true rfl
      clear hN hp hs hat hxj hcc hj CC CR
      go_enter Try.func22, Try.ntmps22
      go_wp2_with (go_at_call 10; refine stop_of ?_)
      unfold Stop
      refine Calls_abs ?_
      intro X hX
      have gX : Grew w X := by rw [hX]; exact (by repeat (first | with_reducible exact Grew.refl _ | with_reducible apply Grew.alloc | with_reducible apply Grew.grow | with_reducible apply Grew.drew | with_reducible apply Grew.drewN))
      have rX : X.rowAt w.heap.size = iv leaf.l := by rw [hX]; simp [go_sem]
      have zX : w.heap.size < X.heap.size := by rw [hX]; simp
      clear hX
      refine (CP.out _ gX).mono ?_
      rintro e W1 ⟨v3, rfl, ho, hg⟩
      have r1 : W1.rowAt w.heap.size = iv leaf.l := by rw [Grew.rowAt hg _ zX]; exact rX
      have z1 : w.heap.size < W1.heap.size := Nat.lt_of_lt_of_le zX hg.size
      have GW := Lib.hid (gX.trans hg)
      have q1 := QL.out W1 GW.out
      clear ho hg CP gX rX zX QL
      go_wp2
      refine wp_region_flow (by kernel_rfl) ?_
      intro δf
      apply wpFlow_quiets [0,1,2,3,4,5,6,7,8,9,10,11,12,13,14,15,16,17,18,19,20] (by decide +kernel) (by decide +kernel) (by kernel_rfl) (by intro _ _ _ d _ h; cases d <;> exact h) _
      · intro A hA δ'
        simp only [pickOps_cons, pickOps_nil, pick1_zero, pick1_succ]
        repeat (go_big_quiet_step ((fail)))
        exact wpQuiet_nil hA.out.symm
      refine wpFlow_end (by decide +kernel) (by kernel_rfl) ?_
      intro δf
      go_wp2
      go_ret3
      exact ⟨rfl, GW.out.trans (by repeat (first | with_reducible exact Grew.refl _ | with_reducible apply Grew.alloc | with_reducible apply Grew.grow | with_reducible apply Grew.drew | with_reducible apply Grew.drewN))⟩
    · have e1 := ieq_ne hne
      rw [hN] at hck
      rw [hck] at CC
      obtain ⟨R, hR⟩ : ∃ R, root ls = R := ⟨_, rfl⟩
      rw [hR] at CR CC hrl
      clear hN hp hs hat hxj hcc hj hck hne hR
      go_enter Try.func22, Try.ntmps22
      go_wp2_with (go_at_call 10; refine stop_of ?_)
      unfold Stop
      refine Calls_abs ?_
      intro X hX
      have gX : Grew w X := by rw [hX]; exact (by repeat (first | with_reducible exact Grew.refl _ | with_reducible apply Grew.alloc | with_reducible apply Grew.grow | with_reducible apply Grew.drew | with_reducible apply Grew.drewN))
      have rX : X.rowAt w.heap.size = iv leaf.l := by rw [hX]; simp [go_sem]
      have zX : w.heap.size < X.heap.size := by rw [hX]; simp
      clear hX
      refine (CP.out _ gX).mono ?_
      rintro e W1 ⟨v3, rfl, ho, hg⟩
      have r1 : W1.rowAt w.heap.size = iv leaf.l := by rw [Grew.rowAt hg _ zX]; exact rX
      have z1 : w.heap.size < W1.heap.size := Nat.lt_of_lt_of_le zX hg.size
      have GW := Lib.hid (gX.trans hg)
      have q1 := QL.out W1 GW.out
      clear ho hg CP gX rX zX QL
      go_wp2
      refine wp_region_flow (by kernel_rfl) ?_
      intro δf
      apply wpFlow_quiets [0,1,2,3,4,5,6,7,8,9,10,11] (by decide +kernel) (by decide +kernel) (by kernel_rfl) (by intro _ _ _ d _ h; cases d <;> exact h) _
      · intro A hA δ'
        simp only [pickOps_cons, pickOps_nil, pick1_zero, pick1_succ]
        repeat (go_big_quiet_step ((fail)))
        exact wpQuiet_nil hA.out.symm
      apply wpFlow_quiets [12] (by decide +kernel) (by decide +kernel) (by kernel_rfl) (by intro _ _ _ d _ h; cases d <;> exact h) _
      · intro A hA δ'
        simp only [pickOps_cons, pickOps_nil, pick1_zero, pick1_succ]
        repeat (go_big_quiet_step ((go_at_call 13; (with_reducible first | exact Calls.pure_of_g3 (CR.out _ (GW.out.trans (by repeat (first | with_reducible exact Grew.refl _ | with_reducible apply Grew.alloc | with_reducible apply Grew.grow | with_reducible apply Grew.drew | with_reducible apply Grew.drewN)))) | exact Calls.pure_of_g4 (CR.out _ (GW.out.trans (by repeat (first | with_reducible exact Grew.refl _ | with_reducible apply Grew.alloc | with_reducible apply Grew.grow | with_reducible apply Grew.drew | with_reducible apply Grew.drewN)))) | exact Calls.pure_of_g (CR.out _ (GW.out.trans (by repeat (first | with_reducible exact Grew.refl _ | with_reducible apply Grew.alloc | with_reducible apply Grew.grow | with_reducible apply Grew.drew | with_reducible apply Grew.drewN)))) | exact Calls.pure_of_g5 (CR.out _ (GW.out.trans (by repeat (first | with_reducible exact Grew.refl _ | with_reducible apply Grew.alloc | with_reducible apply Grew.grow | with_reducible apply Grew.drew | with_reducible apply Grew.drewN))))))))
        exact wpQuiet_nil hA.out.symm
      apply wpFlow_quiets [13,14,15,16,17] (by decide +kernel) (by decide +kernel) (by kernel_rfl) (by intro _ _ _ d _ h; cases d <;> exact h) _
      · intro A hA δ'
        simp only [pickOps_cons, pickOps_nil, pick1_zero, pick1_succ]
        repeat (go_big_quiet_step ((fail)))
        exact wpQuiet_nil hA.out.symm
      apply wpFlow_quiets [18] (by decide +kernel) (by decide +kernel) (by kernel_rfl) (by intro _ _ _ d _ h; cases d <;> exact h) _
      · intro A hA δ'
        simp only [pickOps_cons, pickOps_nil, pick1_zero, pick1_succ]
        repeat (go_big_quiet_step ((go_at_call 17; (with_reducible first | exact Calls.pure_of_g3 (CC.out _ (GW.out.trans (by repeat (first | with_reducible exact Grew.refl _ | with_reducible apply Grew.alloc | with_reducible apply Grew.grow | with_reducible apply Grew.drew | with_reducible apply Grew.drewN)))) | exact Calls.pure_of_g4 (CC.out _ (GW.out.trans (by repeat (first | with_reducible exact Grew.refl _ | with_reducible apply Grew.alloc | with_reducible apply Grew.grow | with_reducible apply Grew.drew | with_reducible apply Grew.drewN)))) | exact Calls.pure_of_g (CC.out _ (GW.out.trans (by repeat (first | with_reducible exact Grew.refl _ | with_reducible apply Grew.alloc | with_reducible apply Grew.grow | with_reducible apply Grew.drew | with_reducible apply Grew.drewN)))) | exact Calls.pure_of_g5 (CC.out _ (GW.out.trans (by repeat (first | with_reducible exact Grew.refl _ | with_reducible apply Grew.alloc | with_reducible apply Grew.grow | with_reducible apply Grew.drew | with_reducible apply Grew.drewN))))))))
        exact wpQuiet_nil hA.out.symm
      apply wpFlow_quiets [19,20] (by decide +kernel) (by decide +kernel) (by kernel_rfl) (by intro _ _ _ d _ h; cases d <;> exact h) _
      · intro A hA δ'
        simp only [pickOps_cons, pickOps_nil, pick1_zero, pick1_succ]
        repeat (go_big_quiet_step ((fail)))
        exact wpQuiet_nil hA.out.symm
      refine wpFlow_end (by decide +kernel) (by kernel_rfl) ?_
      intro δf
      go_wp2
      go_ret3
      exact ⟨rfl, GW.out.trans (by repeat (first | with_reducible exact Grew.refl _ | with_reducible apply Grew.alloc | with_reducible apply Grew.grow | with_reducible apply Grew.drew | with_reducible apply Grew.drewN))⟩
end Go.Proofs.Ytleaemeihljlnaa
/- tree's Clash, where there is one. -/
namespace Go.Proofs.Ytleaemeihljlnaa
set_option linter.unusedVariables false
set_option linter.unusedSimpArgs false
open Go.RowKit
def txt (p : Idb × Idb) : List Nat := textL p.1.l p.2.l
theorem text_shp (p : Idb × Idb) (w : World) : Calls Try.prog 35 #[.agg (iv (pair p.1.l p.2.l))] w fun e w' => ∃ v, e = .returned v ∧ Shows w' v (bys (txt p)) ∧ Grew w w' := text_sh p.1 p.2 w
/-- What is known at step 'k'. -/
theorem clash_step {ss : List Nat} {x y : Idb} {xs ys : List Idb} {K : Nat} (hm : Meets ss x xs y ys K) (hs : ∀ s ∈ ss, s = 0 ∨ s = 1) (hx : ss.length = xs.length) (hy : ss.length = ys.length) (k : Nat) (hk : k ≤ K) :
    ∃ (s : Nat) (z u : Idb) (p q : Idb × Idb), ss[k]? = some s ∧ (s = 0 ∨ s = 1) ∧ xs[k]? = some z ∧ ys[k]? = some u ∧ p = pr s (topk ss x xs k) z ∧ q = pr s (topk ss y ys k) u ∧ (prs ss x xs)[k]? = some p ∧ (prs ss y ys)[k]? = some q ∧ peq p q = false ∧
      ieq (p.1.node p.2).l (q.1.node q.2).l = decide (k = K) := by
  have hlt := hm.lt
  obtain ⟨s, hsk⟩ : ∃ s, ss[k]? = some s := ⟨_, List.getElem?_eq_getElem (by omega)⟩
  obtain ⟨z, hz⟩ : ∃ s, xs[k]? = some s := ⟨_, List.getElem?_eq_getElem (by omega)⟩
  obtain ⟨u, hu⟩ : ∃ s, ys[k]? = some s := ⟨_, List.getElem?_eq_getElem (by omega)⟩
  have h01 := hs s (List.mem_of_getElem? hsk)
  have hne := pr_apart (z := z) (u := u) h01 (hm.apart k hk)
  refine ⟨s, z, u, _, _, hsk, h01, hz, hu, rfl, rfl, prs_at ss x xs k s z hx hsk hz, prs_at ss y ys k s u hy hsk hu, ?_, ?_⟩
  · cases h : peq (pr s (topk ss x xs k) z) (pr s (topk ss y ys k) u)
    · rfl
    · exact absurd ((peq_iff _ _).1 h) hne
  · have e1 := (stepk ss x xs k s z hx hsk hz).2
    have e2 := (stepk ss y ys k s u hy hsk hu).2
    unfold nodeP at e1 e2
    rw [← e1, ← e2]
    by_cases h : k = K
    · subst h
      rw [hm.hit, decide_eq_true rfl]
      exact decide_eq_true rfl
    · rw [decide_eq_false h]
      exact ieq_ne (hm.apart (k + 1) (by omega))
set_option maxRecDepth 100000 in
set_option maxHeartbeats 6400000 in
theorem clash_yes (ls : List Idb) (i : Int) (leaf : Idb) (xs : List Idb) (j : Nat) (x : Idb) (K : Nat) (hc : ClashAt ls i leaf xs j x) (hm : Meets (side ls.length j).reverse leaf xs x (path ls j) K) (hxs : (side ls.length j).reverse.length = xs.length)
    (p q : Idb × Idb) (hp : (prs (side ls.length j).reverse leaf xs)[K]? = some p) (hq : (prs (side ls.length j).reverse x (path ls j))[K]? = some q) (v1 v2 : Value) (w : World) (h1 : ShowsI w v1 ls) (h2 : ShowsI w v2 xs) :
    Calls Try.prog 22 #[v1, .int .i64 i, .agg (iv leaf.l), v2] w fun e w' => ∃ va vb, e = .returned (.tuple #[va, vb, .bool true]) ∧ Shows w' va (bys (txt p)) ∧ Shows w' vb (bys (txt q)) ∧ Grew w w' := by
  obtain ⟨rfl, hl, hxj, hne, hck⟩ := hc
  obtain ⟨p1, c1, rfl⟩ := showsI_form h1
  obtain ⟨p2, c2, rfl⟩ := showsI_form h2
  have H1 := Lib.hid h1
  have H2 := Lib.hid h2
  clear h1 h2
  have hll := leaf.len
  have hj := (List.getElem?_eq_some_iff.1 hxj).1
  have hpo : pathOk ls (j : Int) = true := decide_eq_true (by omega)
  have hof : pathOf ls (j : Int) = path ls j := by unfold pathOf; rw [if_pos hpo]; rfl
  have CP := Lib.hid (fun W (g : Grew w W) => path_w ls j (.slice p1 ls.length c1) W (H1.out.grew g))
  rw [hpo, hof] at CP
  have hpl := path_len ls j (by omega)
  have hxl := x.len
  have hs := H1.out
  obtain ⟨b, o, rfl, _, hcc, hb, hat⟩ := showsI_some hs (by omega)
  have QL := Lib.hid (fun W (g : Grew w W) δ => load_idg (World.rangeAt.grew (hat j x hxj) g) δ)
  have QM := Lib.hid (fun W (g : Grew w W) => load_idm (World.rangeAt.grew (hat j x hxj) g))
  have CR := Lib.hid (roots_of ls _ w (by omega) hs)
  have hslen := side_len ls.length j (by omega) (by omega)
  have hxs2 : xs.length < 64 := by rw [← hxs, List.length_reverse]; omega
  have CC := Lib.hid (fun W (g : Grew w W) => check_w (root ls) (ls.length : Nat) (j : Nat) leaf xs (.slice p2 xs.length c2) W (H2.out.grew g) (by omega))
  rw [hck] at CC
  have CS := Lib.hid (fun W => sides_w ls.length j (by omega) (by omega) hj W)
  have hrl := (root ls).len
  have h01 := side_01 ls.length j
  obtain ⟨R, hR⟩ : ∃ R, root ls = R := ⟨_, rfl⟩
  rw [hR] at CR CC hrl
  obtain ⟨ys, hys⟩ : ∃ ys, path ls j = ys := ⟨_, rfl⟩
  rw [hys] at CP hm hq hpl
  have hpl : ys.length = (side ls.length j).reverse.length := by rw [List.length_reverse]; exact hpl
  have hslen : (side ls.length j).reverse.length < ls.length := by rw [List.length_reverse]; exact hslen
  obtain ⟨ss, hss⟩ : ∃ ss, (side ls.length j).reverse = ss := ⟨_, rfl⟩
  rw [hss] at CS hm hp hq hxs h01 hpl hslen
  obtain ⟨N, hN⟩ : ∃ N, ls.length = N := ⟨_, rfl⟩
  rw [hN] at CP CR CC CS ⊢
  have hjN : (j : Int) < (N : Int) := by omega
  have e1 := ieq_ne hne
  have STEP := Lib.hid (fun k hk => clash_step hm h01 hxs hpl.symm k hk)
  have hKS := hm.lt
  obtain ⟨S, hS⟩ : ∃ S, ss.length = S := ⟨_, rfl⟩
  have HSl := Lib.hid hS
  have PA := Lib.hid (fun W v1 v2 (a : Shows W v1 (ivs ss)) (b : ShowsI W v2 xs) => pairs_w ss leaf xs v1 v2 W h01 hxs (by omega) a b)
  have PB := Lib.hid (fun W v1 v2 (a : Shows W v1 (ivs ss)) (b : ShowsI W v2 ys) => pairs_w ss x ys v1 v2 W h01 hpl.symm (by omega) a b)
  have TA := (top ss leaf xs).len
  have TB := (top ss x ys).len
  have PL1 := Lib.hid (prs_len ss leaf xs hxs)
  have PL2 := Lib.hid (prs_len ss x ys hpl.symm)
  have HP := Lib.hid hp
  have HQ := Lib.hid hq
  obtain ⟨tA, hA⟩ : ∃ t, top ss leaf xs = t := ⟨_, rfl⟩
  obtain ⟨tB, hB⟩ : ∃ t, top ss x ys = t := ⟨_, rfl⟩
  rw [hA] at PA TA
  rw [hB] at PB TB
  have hSI : (S : Int) < 64 := by omega
  have hb2 : b < w.heap.size := hb
  rw [hS] at hKS
  clear hN hpo hs hat hxj hcc hj hck hne hR hys hss hm hS hxs hpl hslen h01 hof hp hq hA hB hb
  go_enter Try.func22, Try.ntmps22
  go_wp2_with (go_at_call 10; refine stop_of ?_)
  unfold Stop
  refine Calls_abs ?_
  intro X hX
  have gX : Grew w X := by rw [hX]; exact (by repeat (first | with_reducible exact Grew.refl _ | with_reducible apply Grew.alloc | with_reducible apply Grew.grow | with_reducible apply Grew.drew | with_reducible apply Grew.drewN))
  have rX : X.rowAt w.heap.size = iv leaf.l := by rw [hX]; simp [go_sem]
  have zX : w.heap.size < X.heap.size := by rw [hX]; simp
  clear hX
  refine (CP.out _ gX).mono ?_
  rintro e W1 ⟨v3, rfl, ho, hg⟩
  have r1 : W1.rowAt w.heap.size = iv leaf.l := by rw [Grew.rowAt hg _ zX]; exact rX
  have z1 : w.heap.size < W1.heap.size := Nat.lt_of_lt_of_le zX hg.size
  have GW := Lib.hid (gX.trans hg)
  have q1 := QL.out W1 GW.out
  have HY := Lib.hid (ho.shows Idb.cs_len)
  clear ho hg CP gX rX zX
  go_wp2
  refine wp_region_flow (by kernel_rfl) ?_
  intro δf
  apply wpFlow_quiets [0,1,2,3,4,5,6,7,8,9,10,11] (by decide +kernel) (by decide +kernel) (by kernel_rfl) (by intro _ _ _ d _ h; cases d <;> exact h) _
  · intro A hA δ'
    simp only [pickOps_cons, pickOps_nil, pick1_zero, pick1_succ]
    repeat (go_big_quiet_step ((fail)))
    exact wpQuiet_nil hA.out.symm
  apply wpFlow_quiets [12] (by decide +kernel) (by decide +kernel) (by kernel_rfl) (by intro _ _ _ d _ h; cases d <;> exact h) _
  · intro A hA δ'
    simp only [pickOps_cons, pickOps_nil, pick1_zero, pick1_succ]
    repeat (go_big_quiet_step ((go_at_call 13; (with_reducible first | exact Calls.pure_of_g3 (CR.out _ (GW.out.trans (by repeat (first | with_reducible exact Grew.refl _ | with_reducible apply Grew.alloc | with_reducible apply Grew.grow | with_reducible apply Grew.drew | with_reducible apply Grew.drewN)))) | exact Calls.pure_of_g4 (CR.out _ (GW.out.trans (by repeat (first | with_reducible exact Grew.refl _ | with_reducible apply Grew.alloc | with_reducible apply Grew.grow | with_reducible apply Grew.drew | with_reducible apply Grew.drewN)))) | exact Calls.pure_of_g (CR.out _ (GW.out.trans (by repeat (first | with_reducible exact Grew.refl _ | with_reducible apply Grew.alloc | with_reducible apply Grew.grow | with_reducible apply Grew.drew | with_reducible apply Grew.drewN)))) | exact Calls.pure_of_g5 (CR.out _ (GW.out.trans (by repeat (first | with_reducible exact Grew.refl _ | with_reducible apply Grew.alloc | with_reducible apply Grew.grow | with_reducible apply Grew.drew | with_reducible apply Grew.drewN))))))))
    exact wpQuiet_nil hA.out.symm
  apply wpFlow_quiets [13,14,15,16,17] (by decide +kernel) (by decide +kernel) (by kernel_rfl) (by intro _ _ _ d _ h; cases d <;> exact h) _
  · intro A hA δ'
    simp only [pickOps_cons, pickOps_nil, pick1_zero, pick1_succ]
    repeat (go_big_quiet_step ((fail)))
    exact wpQuiet_nil hA.out.symm
  apply wpFlow_quiets [18] (by decide +kernel) (by decide +kernel) (by kernel_rfl) (by intro _ _ _ d _ h; cases d <;> exact h) _
  · intro A hA δ'
    simp only [pickOps_cons, pickOps_nil, pick1_zero, pick1_succ]
    repeat (go_big_quiet_step ((go_at_call 17; (with_reducible first | exact Calls.pure_of_g3 (CC.out _ (GW.out.trans (by repeat (first | with_reducible exact Grew.refl _ | with_reducible apply Grew.alloc | with_reducible apply Grew.grow | with_reducible apply Grew.drew | with_reducible apply Grew.drewN)))) | exact Calls.pure_of_g4 (CC.out _ (GW.out.trans (by repeat (first | with_reducible exact Grew.refl _ | with_reducible apply Grew.alloc | with_reducible apply Grew.grow | with_reducible apply Grew.drew | with_reducible apply Grew.drewN)))) | exact Calls.pure_of_g (CC.out _ (GW.out.trans (by repeat (first | with_reducible exact Grew.refl _ | with_reducible apply Grew.alloc | with_reducible apply Grew.grow | with_reducible apply Grew.drew | with_reducible apply Grew.drewN)))) | exact Calls.pure_of_g5 (CC.out _ (GW.out.trans (by repeat (first | with_reducible exact Grew.refl _ | with_reducible apply Grew.alloc | with_reducible apply Grew.grow | with_reducible apply Grew.drew | with_reducible apply Grew.drewN))))))))
    exact wpQuiet_nil hA.out.symm
  apply wpFlow_quiets [19,20] (by decide +kernel) (by decide +kernel) (by kernel_rfl) (by intro _ _ _ d _ h; cases d <;> exact h) _
  · intro A hA δ'
    simp only [pickOps_cons, pickOps_nil, pick1_zero, pick1_succ]
    repeat (go_big_quiet_step ((fail)))
    exact wpQuiet_nil hA.out.symm
  refine wpFlow_end (by decide +kernel) (by kernel_rfl) ?_
  intro δf
  clear CR CC
  go_wp2_with (go_at_call 31; refine stop_of ?_)
  unfold Stop
  refine Calls_abs ?_
  intro X hX
  have gX : Grew W1 X := by rw [hX]; exact (by repeat (first | with_reducible exact Grew.refl _ | with_reducible apply Grew.alloc | with_reducible apply Grew.grow | with_reducible apply Grew.drew | with_reducible apply Grew.drewN))
  refine (CS.out X).mono ?_
  rintro e W2 ⟨v4, rfl, ho, hg⟩
  obtain ⟨p4, c4, rfl⟩ := shows_form ho.shows
  have g2 : Grew W1 W2 := gX.trans hg
  have r2 : W2.rowAt w.heap.size = iv leaf.l := by rw [Grew.rowAt g2 _ z1]; exact r1
  have z2 : w.heap.size < W2.heap.size := Nat.lt_of_lt_of_le z1 g2.size
  have H4 := Lib.hid ho.shows
  rw [ivs_len, HSl.out] at H4 ⊢
  have GW2 := Lib.hid (GW.out.trans g2)
  have HY2 := Lib.hid (HY.out.grew g2)
  clear ho hg hX gX g2 CS q1 GW HY r1 z1
  go_wp2_with (go_at_call 32; refine stop_of ?_)
  unfold Stop
  refine Calls_abs ?_
  intro X hX
  have gX : Grew W2 X := by rw [hX]; exact (by repeat (first | with_reducible exact Grew.refl _ | with_reducible apply Grew.alloc | with_reducible apply Grew.grow | with_reducible apply Grew.drew | with_reducible apply Grew.drewN))
  refine (PA.out X _ _ (H4.out.grew gX) (H2.out.grew (GW2.out.trans gX))).mono ?_
  rintro e W3 ⟨v5, rfl, ho, hg⟩
  have hlen := PL1.out
  rw [HSl.out] at hlen
  obtain ⟨g1, cap1, hv, hgb, hgs, hcap⟩ := (ho.form).resolve_left (by rintro ⟨_, h⟩; rw [h] at hlen; simp at hlen; omega)
  rw [hlen] at hv hcap
  subst hv
  have g3 : Grew W2 W3 := gX.trans hg
  have HA := Lib.hid ho
  have GW3 := Lib.hid (GW2.out.trans g3)
  have HY3 := Lib.hid (HY2.out.grew g3)
  have H43 := Lib.hid (H4.out.grew g3)
  have q3 : ∀ C t, (rowLoad 29 (.pointer (some ⟨b, o + j * 32, none⟩))).run Try.prog (W3.alloc (.cells C t)) = .ok (.value (.agg (iv x.l))) (W3.alloc (.cells C t)) := fun C t => QM.out _ (GW3.out.trans (by repeat (first | with_reducible exact Grew.refl _ | with_reducible apply Grew.alloc | with_reducible apply Grew.grow | with_reducible apply Grew.drew | with_reducible apply Grew.drewN)))
  clear ho hg hX gX g3 r2 z2 GW2 HY2 hgb hlen PA
  go_wp2_with (go_at_call 32; refine stop_of ?_)
  unfold Stop
  refine Calls_abs ?_
  intro X hX
  have gX : Grew W3 X := by rw [hX]; exact (by repeat (first | with_reducible exact Grew.refl _ | with_reducible apply Grew.alloc | with_reducible apply Grew.grow | with_reducible apply Grew.drew | with_reducible apply Grew.drewN))
  refine (PB.out X _ _ (H43.out.grew gX) (HY3.out.grew gX)).mono ?_
  rintro e W4 ⟨v6, rfl, ho, hg⟩
  have hlen := PL2.out
  rw [HSl.out] at hlen
  obtain ⟨g2, cap2, hv, hgb, hgs2, hcap2⟩ := (ho.form).resolve_left (by rintro ⟨_, h⟩; rw [h] at hlen; simp at hlen; omega)
  rw [hlen] at hv hcap2
  subst hv
  have g4 : Grew W3 W4 := gX.trans hg
  have HA4 := Lib.hid (HA.out.grew g4)
  have HB4 := Lib.hid ho
  have GW4 := Lib.hid (GW3.out.trans g4)
  clear ho hg hX gX g4 q3 HA GW3 HY3 H43 hgb hlen PB H4 PL1 PL2 hgs QL QM
  clear H1 H2 hll hxl TA hslen hxs2 hrl e1 hl hpl
  go_wp2
  refine code_abs ?_
  intro V hV
  have gV : Grew W4 V := by rw [hV]; exact (by repeat (first | with_reducible exact Grew.refl _ | with_reducible apply Grew.alloc | with_reducible apply Grew.grow | with_reducible apply Grew.drew | with_reducible apply Grew.drewN))
  have HAV := Lib.hid (HA4.out.grew gV)
  have HBV := Lib.hid (HB4.out.grew gV)
  have GV := Lib.hid (GW4.out.trans gV)
  clear hV gV HA4 HB4 GW4 hgs2 hb2
  go_loopw [69] (fun i wr => ∃ k : Nat, k ≤ K ∧ i = .int .i64 k ∧ Grew V wr) (fun i _ => K + 1 - (intOf i).toNat)
  case atStart => exact ⟨0, by omega, rfl, Grew.refl _⟩
  case round =>
    obtain ⟨k, hk, rfl, gk⟩ := hrel
    obtain ⟨s, z, u, ⟨a1, a2⟩, ⟨b1, b2⟩, y1, y2, y3, y4, y5, y6, hpa, hpb, hne, hno⟩ := STEP.out k hk
    clear y1 y2 y3 y4 y5 y6
    have ra := OwnE.range pcs_len (HAV.out.grew gk) k _ hpa
    have rb := OwnE.range pcs_len (HBV.out.grew gk) k _ hpb
    have hkS : (k : Int) < (S : Int) := by omega
    have hc1 : (S : Int) ≤ (cap1 : Int) := by omega
    have hc2 : (S : Int) ≤ (cap2 : Int) := by omega
    have HK := Lib.hid hk
    have GK := Lib.hid (GV.out.trans gk)
    have gkk := Lib.hid gk
    have l1 : ∀ δ, (rowLoad 57 (.pointer (some ⟨g1, k * 64, none⟩))).run Try.prog (wr.grow δ) = .ok (.value (.agg (iv (pair a1.l a2.l)))) (wr.grow δ) := fun δ => load_pairm (p := (a1, a2)) (World.rangeAt.grew ra ⟨δ, rfl⟩)
    have l2 : ∀ δ, (rowLoad 57 (.pointer (some ⟨g2, k * 64, none⟩))).run Try.prog (wr.grow δ) = .ok (.value (.agg (iv (pair b1.l b2.l)))) (wr.grow δ) := fun δ => load_pairm (p := (b1, b2)) (World.rangeAt.grew rb ⟨δ, rfl⟩)
    have l3 : ∀ δ, (rowLoad 29 (.pointer (some ⟨g1, k * 64, none⟩))).run Try.prog (wr.grow δ) = .ok (.value (.agg (iv a1.l))) (wr.grow δ) := fun δ => load_idm (x := a1) (World.rangeAt.grew (range_lo ra) ⟨δ, rfl⟩)
    have l4 : ∀ δ, (rowLoad 29 (.pointer (some ⟨g1, k * 64 + 32, none⟩))).run Try.prog (wr.grow δ) = .ok (.value (.agg (iv a2.l))) (wr.grow δ) := fun δ => load_idm (x := a2) (World.rangeAt.grew (range_hi ra) ⟨δ, rfl⟩)
    have l5 : ∀ δ, (rowLoad 29 (.pointer (some ⟨g2, k * 64, none⟩))).run Try.prog (wr.grow δ) = .ok (.value (.agg (iv b1.l))) (wr.grow δ) := fun δ => load_idm (x := b1) (World.rangeAt.grew (range_lo rb) ⟨δ, rfl⟩)
    have l6 : ∀ δ, (rowLoad 29 (.pointer (some ⟨g2, k * 64 + 32, none⟩))).run Try.prog (wr.grow δ) = .ok (.value (.agg (iv b2.l))) (wr.grow δ) := fun δ => load_idm (x := b2) (World.rangeAt.grew (range_hi rb) ⟨δ, rfl⟩)
    have n1 := (a1.node a2).len
    have n2 := (b1.node b2).len
    clear ra rb gk
    by_cases hkK : k = K
    · rw [decide_eq_true hkK] at hno
      subst hkK
      have hp' : p = (a1, a2) := by have := HP.out; rw [hpa] at this; exact (Option.some.inj this).symm
      have hq' : q = (b1, b2) := by have := HQ.out; rw [hpb] at this; exact (Option.some.inj this).symm
      subst hp' hq'
      clear hpa hpb hk
      go_wp2
      refine wp_region_flow (by kernel_rfl) ?_
      intro δf
      apply wpFlow_quiets [0,1,2,3,4,5,6,7,8,9,10,11,12,13,14,15,16,17,18,19] (by decide +kernel) (by decide +kernel) (by kernel_rfl) (by intro _ _ _ d _ h; cases d <;> exact h) _
      · intro A hA δ'
        simp only [pickOps_cons, pickOps_nil, pick1_zero, pick1_succ]
        repeat (go_big_quiet_step ((fail)))
        exact wpQuiet_nil hA.out.symm
      apply wpFlow_quiets [20] (by decide +kernel) (by decide +kernel) (by kernel_rfl) (by intro _ _ _ d _ h; cases d <;> exact h) _
      · intro A hA δ'
        simp only [pickOps_cons, pickOps_nil, pick1_zero, pick1_succ]
        repeat (go_big_quiet_step ((go_at_call 19; (with_reducible first | exact Calls.pure_of_g3 (node_w a1 a2 _) | exact Calls.pure_of_g4 (node_w a1 a2 _) | exact Calls.pure_of_g (node_w a1 a2 _) | exact Calls.pure_of_g5 (node_w a1 a2 _)))))
        exact wpQuiet_nil hA.out.symm
      apply wpFlow_quiets [21,22,23,24,25,26,27,28,29,30] (by decide +kernel) (by decide +kernel) (by kernel_rfl) (by intro _ _ _ d _ h; cases d <;> exact h) _
      · intro A hA δ'
        simp only [pickOps_cons, pickOps_nil, pick1_zero, pick1_succ]
        repeat (go_big_quiet_step ((fail)))
        exact wpQuiet_nil hA.out.symm
      apply wpFlow_quiets [31] (by decide +kernel) (by decide +kernel) (by kernel_rfl) (by intro _ _ _ d _ h; cases d <;> exact h) _
      · intro A hA δ'
        simp only [pickOps_cons, pickOps_nil, pick1_zero, pick1_succ]
        repeat (go_big_quiet_step ((go_at_call 19; (with_reducible first | exact Calls.pure_of_g3 (node_w b1 b2 _) | exact Calls.pure_of_g4 (node_w b1 b2 _) | exact Calls.pure_of_g (node_w b1 b2 _) | exact Calls.pure_of_g5 (node_w b1 b2 _)))))
        exact wpQuiet_nil hA.out.symm
      apply wpFlow_quiets [32,33] (by decide +kernel) (by decide +kernel) (by kernel_rfl) (by intro _ _ _ d _ h; cases d <;> exact h) _
      · intro A hA δ'
        simp only [pickOps_cons, pickOps_nil, pick1_zero, pick1_succ]
        repeat (go_big_quiet_step ((fail)))
        exact wpQuiet_nil hA.out.symm
      refine wpFlow_end (by decide +kernel) (by kernel_rfl) ?_
      intro δf
      clear n1 n2 hne hno l3 l4 l5 l6
      go_wp2
      refine wp_region_flow (by kernel_rfl) ?_
      intro δf
      apply wpFlow_quiets [0,1,2,3,5,6,7,8] (by decide +kernel) (by decide +kernel) (by kernel_rfl) (by intro _ _ _ d _ h; cases d <;> exact h) _
      · intro A hA δ'
        simp only [pickOps_cons, pickOps_nil, pick1_zero, pick1_succ]
        repeat (go_big_quiet_step ((fail)))
        exact wpQuiet_nil hA.out.symm
      refine wpFlow_one 4 (by decide +kernel) (by kernel_rfl) (by kernel_rfl) ?_
      refine wpFlowS_intro ?_
      simp only [pickOps_cons, pickOps_nil, pick1_zero, pick1_succ]
      intro δf
      go_wp2_with (go_at_call 35; refine (text_shp (a1, a2) _).mono ?_; rintro e w5 ⟨v5, rfl, hs5, hg5⟩)
      refine ⟨(by first | assumption | (simp only [grow_grow, Array.append_assoc]; assumption) | exact Grew.refl _ | (simp only [grow_grow, Array.append_assoc]; exact (by repeat (first | with_reducible exact Grew.refl _ | with_reducible apply Grew.alloc | with_reducible apply Grew.grow | with_reducible apply Grew.drew | with_reducible apply Grew.drewN))) | exact (by repeat (first | with_reducible exact Grew.refl _ | with_reducible apply Grew.alloc | with_reducible apply Grew.grow | with_reducible apply Grew.drew | with_reducible apply Grew.drewN))), ?_⟩
      have g5 : Grew wr w5 := (show Grew wr _ from (by repeat (first | with_reducible exact Grew.refl _ | with_reducible apply Grew.alloc | with_reducible apply Grew.grow | with_reducible apply Grew.drew | with_reducible apply Grew.drewN))).trans hg5
      have G5 := Lib.hid g5
      have HS5 := Lib.hid hs5
      clear hg5 hs5 g5
      refine wpFlow_one 9 (by decide +kernel) (by kernel_rfl) (by kernel_rfl) ?_
      refine wpFlowS_intro ?_
      simp only [pickOps_cons, pickOps_nil, pick1_zero, pick1_succ]
      intro δf
      go_wp2_with (go_at_call 35; refine (text_shp (b1, b2) _).mono ?_; rintro e w6 ⟨v6, rfl, hs6, hg6⟩)
      refine ⟨(by first | assumption | (simp only [grow_grow, Array.append_assoc]; assumption) | exact Grew.refl _ | (simp only [grow_grow, Array.append_assoc]; exact (by repeat (first | with_reducible exact Grew.refl _ | with_reducible apply Grew.alloc | with_reducible apply Grew.grow | with_reducible apply Grew.drew | with_reducible apply Grew.drewN))) | exact (by repeat (first | with_reducible exact Grew.refl _ | with_reducible apply Grew.alloc | with_reducible apply Grew.grow | with_reducible apply Grew.drew | with_reducible apply Grew.drewN))), ?_⟩
      have g6 : Grew w5 w6 := (show Grew w5 _ from (by repeat (first | with_reducible exact Grew.refl _ | with_reducible apply Grew.alloc | with_reducible apply Grew.grow | with_reducible apply Grew.drew | with_reducible apply Grew.drewN))).trans hg6
      have G6 := Lib.hid g6
      have HS6 := Lib.hid hs6
      clear hg6 hs6 g6
      apply wpFlow_quiets [10,11,12] (by decide +kernel) (by decide +kernel) (by kernel_rfl) (by intro _ _ _ d _ h; cases d <;> exact h) _
      · intro A hA δ'
        simp only [pickOps_cons, pickOps_nil, pick1_zero, pick1_succ]
        repeat (go_big_quiet_step ((fail)))
        exact wpQuiet_nil hA.out.symm
      refine wpFlow_end (by decide +kernel) (by kernel_rfl) ?_
      intro δf
      go_wp2
      go_ret3
      exact ⟨_, _, rfl, HS5.out.grew (G6.out.trans (by repeat (first | with_reducible exact Grew.refl _ | with_reducible apply Grew.alloc | with_reducible apply Grew.grow | with_reducible apply Grew.drew | with_reducible apply Grew.drewN))), HS6.out.grew (by repeat (first | with_reducible exact Grew.refl _ | with_reducible apply Grew.alloc | with_reducible apply Grew.grow | with_reducible apply Grew.drew | with_reducible apply Grew.drewN)), GK.out.trans (G5.out.trans (G6.out.trans (by repeat (first | with_reducible exact Grew.refl _ | with_reducible apply Grew.alloc | with_reducible apply Grew.grow | with_reducible apply Grew.drew | with_reducible apply Grew.drewN))))⟩
    · rw [decide_eq_false hkK] at hno
      clear hpa hpb hk
      go_wp2
      refine wp_region_flow (by kernel_rfl) ?_
      intro δf
      apply wpFlow_quiets [0,1,2,3,4,5,6,7,8,9,10,11,12,13,14,15,16,17,18,19] (by decide +kernel) (by decide +kernel) (by kernel_rfl) (by intro _ _ _ d _ h; cases d <;> exact h) _
      · intro A hA δ'
        simp only [pickOps_cons, pickOps_nil, pick1_zero, pick1_succ]
        repeat (go_big_quiet_step ((fail)))
        exact wpQuiet_nil hA.out.symm
      apply wpFlow_quiets [20] (by decide +kernel) (by decide +kernel) (by kernel_rfl) (by intro _ _ _ d _ h; cases d <;> exact h) _
      · intro A hA δ'
        simp only [pickOps_cons, pickOps_nil, pick1_zero, pick1_succ]
        repeat (go_big_quiet_step ((go_at_call 19; (with_reducible first | exact Calls.pure_of_g3 (node_w a1 a2 _) | exact Calls.pure_of_g4 (node_w a1 a2 _) | exact Calls.pure_of_g (node_w a1 a2 _) | exact Calls.pure_of_g5 (node_w a1 a2 _)))))
        exact wpQuiet_nil hA.out.symm
      apply wpFlow_quiets [21,22,23,24,25,26,27,28,29,30] (by decide +kernel) (by decide +kernel) (by kernel_rfl) (by intro _ _ _ d _ h; cases d <;> exact h) _
      · intro A hA δ'
        simp only [pickOps_cons, pickOps_nil, pick1_zero, pick1_succ]
        repeat (go_big_quiet_step ((fail)))
        exact wpQuiet_nil hA.out.symm
      apply wpFlow_quiets [31] (by decide +kernel) (by decide +kernel) (by kernel_rfl) (by intro _ _ _ d _ h; cases d <;> exact h) _
      · intro A hA δ'
        simp only [pickOps_cons, pickOps_nil, pick1_zero, pick1_succ]
        repeat (go_big_quiet_step ((go_at_call 19; (with_reducible first | exact Calls.pure_of_g3 (node_w b1 b2 _) | exact Calls.pure_of_g4 (node_w b1 b2 _) | exact Calls.pure_of_g (node_w b1 b2 _) | exact Calls.pure_of_g5 (node_w b1 b2 _)))))
        exact wpQuiet_nil hA.out.symm
      apply wpFlow_quiets [32,33] (by decide +kernel) (by decide +kernel) (by kernel_rfl) (by intro _ _ _ d _ h; cases d <;> exact h) _
      · intro A hA δ'
        simp only [pickOps_cons, pickOps_nil, pick1_zero, pick1_succ]
        repeat (go_big_quiet_step ((fail)))
        exact wpQuiet_nil hA.out.symm
      refine wpFlow_end (by decide +kernel) (by kernel_rfl) ?_
      intro δf
      go_wp2
      exact ⟨⟨k + 1, by have := HK.out; omega, by go_num, gkk.out.trans (by repeat (first | with_reducible exact Grew.refl _ | with_reducible apply Grew.alloc | with_reducible apply Grew.grow | with_reducible apply Grew.drew | with_reducible apply Grew.drewN))⟩, by simp only [intOf]; have := HK.out; omega⟩
end Go.Proofs.Ytleaemeihljlnaa
/- The document's Clash. -/
namespace Go.Proofs.Ytleaemeihljlnaa
set_option linter.unusedVariables false
set_option linter.unusedSimpArgs false
open Go.RowKit
set_option maxRecDepth 100000 in
set_option maxHeartbeats 3200000 in
theorem rtx_w (s : Nat) (hs : s = 0 ∨ s = 1) (x y : Idb) (w : World) : Calls Try.prog 40 #[.bool (s == 0), .agg (iv x.l), .agg (iv y.l)] w fun e w' => ∃ v, e = .returned v ∧ Shows w' v (bys (txt (pr s x y))) ∧ Grew w w' := by
  have hxl := x.len
  have hyl := y.len
  rcases hs with rfl | rfl
  · go_enter Try.func40, Try.ntmps40
    go_wp2_with (go_at_call 36; refine stop_of ?_)
    unfold Stop
    refine (rtext_w x y _).mono ?_
    rintro e w' ⟨v, rfl, ho, hg⟩
    have HO := Lib.hid ho.shows
    have HG := Lib.hid ((show Grew w _ from (by repeat (first | with_reducible exact Grew.refl _ | with_reducible apply Grew.alloc | with_reducible apply Grew.grow | with_reducible apply Grew.drew | with_reducible apply Grew.drewN))).trans hg)
    clear ho hg
    go_wp2
    go_ret
    exact ⟨_, rfl, HO.out, HG.out⟩
  · go_enter Try.func40, Try.ntmps40
    go_wp2_with (go_at_call 36; refine stop_of ?_)
    unfold Stop
    refine (rtext_w y x _).mono ?_
    rintro e w' ⟨v, rfl, ho, hg⟩
    have HO := Lib.hid ho.shows
    have HG := Lib.hid ((show Grew w _ from (by repeat (first | with_reducible exact Grew.refl _ | with_reducible apply Grew.alloc | with_reducible apply Grew.grow | with_reducible apply Grew.drew | with_reducible apply Grew.drewN))).trans hg)
    clear ho hg
    go_wp2
    go_ret
    exact ⟨_, rfl, HO.out, HG.out⟩
theorem rroots_of (l : List Idb) (v : Value) (w : World) (hl : l.length ≤ 1000000) (hs : ShowsI w v l) : ∀ W, Grew w W → Calls Try.prog 14 #[v] W fun e w' => e = .returned (.agg (iv (root l).l)) ∧ Grew W w' :=
  fun W g => rroot_w _ l v W (Nat.le_refl _) hl (hs.grew g)
set_option maxRecDepth 100000 in
set_option maxHeartbeats 6400000 in
theorem rclash_none (ls : List Idb) (i : Int) (leaf : Idb) (xs : List Idb) (v1 v2 : Value) (w : World) (h1 : ShowsI w v1 ls) (h2 : ShowsI w v2 xs) (hl : ls.length ≤ 1000) (hx : xs.length ≤ 1000000)
    (h : pathOk ls i = false ∨ ∃ (j : Nat) (x : Idb), i = j ∧ ls.length ≤ 64 ∧ ls[j]? = some x ∧ (leaf = x ∨ (leaf ≠ x ∧ chk (root ls) (ls.length : Nat) (j : Nat) leaf xs = false))) :
    Calls Try.prog 23 #[v1, .int .i64 i, .agg (iv leaf.l), v2] w fun e w' => e = .returned (.tuple #[.slice none 0 0, .slice none 0 0, .bool false]) ∧ Grew w w' := by
  obtain ⟨p1, c1, rfl⟩ := showsI_form h1
  obtain ⟨p2, c2, rfl⟩ := showsI_form h2
  have H1 := Lib.hid h1
  have H2 := Lib.hid h2
  clear h1 h2
  have hll := leaf.len
  have CP := Lib.hid (fun W (g : Grew w W) => rPath_w ls i (.slice p1 ls.length c1) W (H1.out.grew g))
  have CR := Lib.hid (rroots_of ls _ w (by omega) H1.out)
  have CC := Lib.hid (fun W (g : Grew w W) => rcheck_w (root ls) (ls.length : Nat) i leaf xs (.slice p2 xs.length c2) W (H2.out.grew g) hx)
  have hrl := (root ls).len
  obtain ⟨N, hN⟩ : ∃ N, ls.length = N := ⟨_, rfl⟩
  have hNI : (N : Int) ≤ 1000 := by omega
  obtain ⟨R, hR⟩ : ∃ R, root ls = R := ⟨_, rfl⟩
  rcases h with hp | ⟨j, x, rfl, hl4, hxj, h⟩
  · rw [hp] at CP
    obtain ⟨B, hB⟩ : ∃ B, chk (root ls) (ls.length : Nat) i leaf xs = B := ⟨_, rfl⟩
    rw [hB] at CC
    rw [hR] at CR CC hrl
    rw [hN] at CP CR CC ⊢
    clear hN hp hB hR hl hx
    go_enter Try.func23, Try.ntmps23
    go_wp2_with (go_at_call 11; refine stop_of ?_)
    unfold Stop
    refine Calls_abs ?_
    intro X hX
    have gX : Grew w X := by rw [hX]; exact (by repeat (first | with_reducible exact Grew.refl _ | with_reducible apply Grew.alloc | with_reducible apply Grew.grow | with_reducible apply Grew.drew | with_reducible apply Grew.drewN))
    have rX : X.rowAt w.heap.size = iv leaf.l := by rw [hX]; simp [go_sem]
    have zX : w.heap.size < X.heap.size := by rw [hX]; simp
    clear hX
    refine (CP.out _ gX).mono ?_
    rintro e W1 ⟨v3, rfl, ho, hg⟩
    have r1 : W1.rowAt w.heap.size = iv leaf.l := by rw [Grew.rowAt hg _ zX]; exact rX
    have z1 : w.heap.size < W1.heap.size := Nat.lt_of_lt_of_le zX hg.size
    have GW := Lib.hid (gX.trans hg)
    clear ho hg CP gX rX zX
    go_wp2
    refine wp_region_flow (by kernel_rfl) ?_
    intro δf
    apply wpFlow_quiets [0] (by decide +kernel) (by decide +kernel) (by kernel_rfl) (by intro _ _ _ d _ h; cases d <;> exact h) _
    · intro A hA δ'
      simp only [pickOps_cons, pickOps_nil, pick1_zero, pick1_succ]
      repeat (go_big_quiet_step ((fail)))
      exact wpQuiet_nil hA.out.symm
    apply wpFlow_quiets [1] (by decide +kernel) (by decide +kernel) (by kernel_rfl) (by intro _ _ _ d _ h; cases d <;> exact h) _
    · intro A hA δ'
      simp only [pickOps_cons, pickOps_nil, pick1_zero, pick1_succ]
      repeat (go_big_quiet_step ((go_at_call 14; (with_reducible first | exact Calls.pure_of_g3 (CR.out _ (GW.out.trans (by repeat (first | with_reducible exact Grew.refl _ | with_reducible apply Grew.alloc | with_reducible apply Grew.grow | with_reducible apply Grew.drew | with_reducible apply Grew.drewN)))) | exact Calls.pure_of_g4 (CR.out _ (GW.out.trans (by repeat (first | with_reducible exact Grew.refl _ | with_reducible apply Grew.alloc | with_reducible apply Grew.grow | with_reducible apply Grew.drew | with_reducible apply Grew.drewN)))) | exact Calls.pure_of_g (CR.out _ (GW.out.trans (by repeat (first | with_reducible exact Grew.refl _ | with_reducible apply Grew.alloc | with_reducible apply Grew.grow | with_reducible apply Grew.drew | with_reducible apply Grew.drewN)))) | exact Calls.pure_of_g5 (CR.out _ (GW.out.trans (by repeat (first | with_reducible exact Grew.refl _ | with_reducible apply Grew.alloc | with_reducible apply Grew.grow | with_reducible apply Grew.drew | with_reducible apply Grew.drewN))))))))
      exact wpQuiet_nil hA.out.symm
    apply wpFlow_quiets [2,3,4,5,6] (by decide +kernel) (by decide +kernel) (by kernel_rfl) (by intro _ _ _ d _ h; cases d <;> exact h) _
    · intro A hA δ'
      simp only [pickOps_cons, pickOps_nil, pick1_zero, pick1_succ]
      repeat (go_big_quiet_step ((fail)))
      exact wpQuiet_nil hA.out.symm
    apply wpFlow_quiets [7] (by decide +kernel) (by decide +kernel) (by kernel_rfl) (by intro _ _ _ d _ h; cases d <;> exact h) _
    · intro A hA δ'
      simp only [pickOps_cons, pickOps_nil, pick1_zero, pick1_succ]
      repeat (go_big_quiet_step ((go_at_call 18; (with_reducible first | exact Calls.pure_of_g3 (CC.out _ (GW.out.trans (by repeat (first | with_reducible exact Grew.refl _ | with_reducible apply Grew.alloc | with_reducible apply Grew.grow | with_reducible apply Grew.drew | with_reducible apply Grew.drewN)))) | exact Calls.pure_of_g4 (CC.out _ (GW.out.trans (by repeat (first | with_reducible exact Grew.refl _ | with_reducible apply Grew.alloc | with_reducible apply Grew.grow | with_reducible apply Grew.drew | with_reducible apply Grew.drewN)))) | exact Calls.pure_of_g (CC.out _ (GW.out.trans (by repeat (first | with_reducible exact Grew.refl _ | with_reducible apply Grew.alloc | with_reducible apply Grew.grow | with_reducible apply Grew.drew | with_reducible apply Grew.drewN)))) | exact Calls.pure_of_g5 (CC.out _ (GW.out.trans (by repeat (first | with_reducible exact Grew.refl _ | with_reducible apply Grew.alloc | with_reducible apply Grew.grow | with_reducible apply Grew.drew | with_reducible apply Grew.drewN))))))))
      exact wpQuiet_nil hA.out.symm
    apply wpFlow_quiets [8] (by decide +kernel) (by decide +kernel) (by kernel_rfl) (by intro _ _ _ d _ h; cases d <;> exact h) _
    · intro A hA δ'
      simp only [pickOps_cons, pickOps_nil, pick1_zero, pick1_succ]
      repeat (go_big_quiet_step ((fail)))
      exact wpQuiet_nil hA.out.symm
    refine wpFlow_end (by decide +kernel) (by kernel_rfl) ?_
    intro δf
    go_wp2
    refine wp_region_flow (by kernel_rfl) ?_
    intro δf
    apply wpFlow_quiets [0,1,2,3,4,5,6,7,8,9,10,11,12,13] (by decide +kernel) (by decide +kernel) (by kernel_rfl) (by intro _ _ _ d _ h; cases d <;> exact h) _
    · intro A hA δ'
      simp only [pickOps_cons, pickOps_nil, pick1_zero, pick1_succ]
      repeat (go_big_quiet_step ((fail)))
      exact wpQuiet_nil hA.out.symm
    refine wpFlow_end (by decide +kernel) (by kernel_rfl) ?_
    intro δf
    go_wp2
    go_ret3
    exact ⟨rfl, GW.out.trans (by repeat (first | with_reducible exact Grew.refl _ | with_reducible apply Grew.alloc | with_reducible apply Grew.grow | with_reducible apply Grew.drew | with_reducible apply Grew.drewN))⟩
  · have hj := (List.getElem?_eq_some_iff.1 hxj).1
    have hp : pathOk ls (j : Int) = true := decide_eq_true (by omega)
    have hxl := x.len
    rw [hp] at CP
    have hs := H1.out
    obtain ⟨b, o, rfl, _, hcc, hb, hat⟩ := showsI_some hs (by omega)
    have QL := Lib.hid (fun W (g : Grew w W) δ => load_idg (World.rangeAt.grew (hat j x hxj) g) δ)
    have hjN : (j : Int) < (N : Int) := by omega
    have hb2 : b < w.heap.size := hb
    have h3 : chk (root ls) (ls.length : Nat) (j : Nat) leaf xs = false ∨ (chk (root ls) (ls.length : Nat) (j : Nat) leaf xs = true ∧ leaf = x) := by
      rcases h with h | ⟨_, h⟩
      · cases hc : chk (root ls) (ls.length : Nat) (j : Nat) leaf xs
        · exact .inl rfl
        · exact .inr ⟨rfl, h⟩
      · exact .inl h
    clear h hs hat hxj hcc hj hb
    rcases h3 with hck | ⟨hck, rfl⟩
    · rw [hck] at CC
      rw [hR] at CR CC hrl
      rw [hN] at CP CR CC ⊢
      clear hN hp hck hR hl hx
      go_enter Try.func23, Try.ntmps23
      go_wp2_with (go_at_call 11; refine stop_of ?_)
      unfold Stop
      refine Calls_abs ?_
      intro X hX
      have gX : Grew w X := by rw [hX]; exact (by repeat (first | with_reducible exact Grew.refl _ | with_reducible apply Grew.alloc | with_reducible apply Grew.grow | with_reducible apply Grew.drew | with_reducible apply Grew.drewN))
      have rX : X.rowAt w.heap.size = iv leaf.l := by rw [hX]; simp [go_sem]
      have zX : w.heap.size < X.heap.size := by rw [hX]; simp
      clear hX
      refine (CP.out _ gX).mono ?_
      rintro e W1 ⟨v3, rfl, ho, hg⟩
      have r1 : W1.rowAt w.heap.size = iv leaf.l := by rw [Grew.rowAt hg _ zX]; exact rX
      have z1 : w.heap.size < W1.heap.size := Nat.lt_of_lt_of_le zX hg.size
      have GW := Lib.hid (gX.trans hg)
      clear ho hg CP gX rX zX
      go_wp2
      refine wp_region_flow (by kernel_rfl) ?_
      intro δf
      apply wpFlow_quiets [0] (by decide +kernel) (by decide +kernel) (by kernel_rfl) (by intro _ _ _ d _ h; cases d <;> exact h) _
      · intro A hA δ'
        simp only [pickOps_cons, pickOps_nil, pick1_zero, pick1_succ]
        repeat (go_big_quiet_step ((fail)))
        exact wpQuiet_nil hA.out.symm
      apply wpFlow_quiets [1] (by decide +kernel) (by decide +kernel) (by kernel_rfl) (by intro _ _ _ d _ h; cases d <;> exact h) _
      · intro A hA δ'
        simp only [pickOps_cons, pickOps_nil, pick1_zero, pick1_succ]
        repeat (go_big_quiet_step ((go_at_call 14; (with_reducible first | exact Calls.pure_of_g3 (CR.out _ (GW.out.trans (by repeat (first | with_reducible exact Grew.refl _ | with_reducible apply Grew.alloc | with_reducible apply Grew.grow | with_reducible apply Grew.drew | with_reducible apply Grew.drewN)))) | exact Calls.pure_of_g4 (CR.out _ (GW.out.trans (by repeat (first | with_reducible exact Grew.refl _ | with_reducible apply Grew.alloc | with_reducible apply Grew.grow | with_reducible apply Grew.drew | with_reducible apply Grew.drewN)))) | exact Calls.pure_of_g (CR.out _ (GW.out.trans (by repeat (first | with_reducible exact Grew.refl _ | with_reducible apply Grew.alloc | with_reducible apply Grew.grow | with_reducible apply Grew.drew | with_reducible apply Grew.drewN)))) | exact Calls.pure_of_g5 (CR.out _ (GW.out.trans (by repeat (first | with_reducible exact Grew.refl _ | with_reducible apply Grew.alloc | with_reducible apply Grew.grow | with_reducible apply Grew.drew | with_reducible apply Grew.drewN))))))))
        exact wpQuiet_nil hA.out.symm
      apply wpFlow_quiets [2,3,4,5,6] (by decide +kernel) (by decide +kernel) (by kernel_rfl) (by intro _ _ _ d _ h; cases d <;> exact h) _
      · intro A hA δ'
        simp only [pickOps_cons, pickOps_nil, pick1_zero, pick1_succ]
        repeat (go_big_quiet_step ((fail)))
        exact wpQuiet_nil hA.out.symm
      apply wpFlow_quiets [7] (by decide +kernel) (by decide +kernel) (by kernel_rfl) (by intro _ _ _ d _ h; cases d <;> exact h) _
      · intro A hA δ'
        simp only [pickOps_cons, pickOps_nil, pick1_zero, pick1_succ]
        repeat (go_big_quiet_step ((go_at_call 18; (with_reducible first | exact Calls.pure_of_g3 (CC.out _ (GW.out.trans (by repeat (first | with_reducible exact Grew.refl _ | with_reducible apply Grew.alloc | with_reducible apply Grew.grow | with_reducible apply Grew.drew | with_reducible apply Grew.drewN)))) | exact Calls.pure_of_g4 (CC.out _ (GW.out.trans (by repeat (first | with_reducible exact Grew.refl _ | with_reducible apply Grew.alloc | with_reducible apply Grew.grow | with_reducible apply Grew.drew | with_reducible apply Grew.drewN)))) | exact Calls.pure_of_g (CC.out _ (GW.out.trans (by repeat (first | with_reducible exact Grew.refl _ | with_reducible apply Grew.alloc | with_reducible apply Grew.grow | with_reducible apply Grew.drew | with_reducible apply Grew.drewN)))) | exact Calls.pure_of_g5 (CC.out _ (GW.out.trans (by repeat (first | with_reducible exact Grew.refl _ | with_reducible apply Grew.alloc | with_reducible apply Grew.grow | with_reducible apply Grew.drew | with_reducible apply Grew.drewN))))))))
        exact wpQuiet_nil hA.out.symm
      apply wpFlow_quiets [8] (by decide +kernel) (by decide +kernel) (by kernel_rfl) (by intro _ _ _ d _ h; cases d <;> exact h) _
      · intro A hA δ'
        simp only [pickOps_cons, pickOps_nil, pick1_zero, pick1_succ]
        repeat (go_big_quiet_step ((fail)))
        exact wpQuiet_nil hA.out.symm
      refine wpFlow_end (by decide +kernel) (by kernel_rfl) ?_
      intro δf
      go_wp2
      refine wp_region_flow (by kernel_rfl) ?_
      intro δf
      apply wpFlow_quiets [0,1,2,3,4,5,6,7,8,9,10,11,12,13] (by decide +kernel) (by decide +kernel) (by kernel_rfl) (by intro _ _ _ d _ h; cases d <;> exact h) _
      · intro A hA δ'
        simp only [pickOps_cons, pickOps_nil, pick1_zero, pick1_succ]
        repeat (go_big_quiet_step ((fail)))
        exact wpQuiet_nil hA.out.symm
      refine wpFlow_end (by decide +kernel) (by kernel_rfl) ?_
      intro δf
      go_wp2
      go_ret3
      exact ⟨rfl, GW.out.trans (by repeat (first | with_reducible exact Grew.refl _ | with_reducible apply Grew.alloc | with_reducible apply Grew.grow | with_reducible apply Grew.drew | with_reducible apply Grew.drewN))⟩
    · have e1 : ieq leaf.l leaf.l = true := decide_eq_true rfl
      rw [hck] at CC
      rw [hR] at CR CC hrl
      rw [hN] at CP CR CC ⊢
      clear hN hp hck hR hl hx
      go_enter Try.func23, Try.ntmps23
      go_wp2_with (go_at_call 11; refine stop_of ?_)
      unfold Stop
      refine Calls_abs ?_
      intro X hX
      have gX : Grew w X := by rw [hX]; exact (by repeat (first | with_reducible exact Grew.refl _ | with_reducible apply Grew.alloc | with_reducible apply Grew.grow | with_reducible apply Grew.drew | with_reducible apply Grew.drewN))
      have rX : X.rowAt w.heap.size = iv leaf.l := by rw [hX]; simp [go_sem]
      have zX : w.heap.size < X.heap.size := by rw [hX]; simp
      clear hX
      refine (CP.out _ gX).mono ?_
      rintro e W1 ⟨v3, rfl, ho, hg⟩
      have r1 : W1.rowAt w.heap.size = iv leaf.l := by rw [Grew.rowAt hg _ zX]; exact rX
      have z1 : w.heap.size < W1.heap.size := Nat.lt_of_lt_of_le zX hg.size
      have GW := Lib.hid (gX.trans hg)
      have q1 := QL.out W1 GW.out
      clear ho hg CP gX rX zX
      go_wp2
      refine wp_region_flow (by kernel_rfl) ?_
      intro δf
      apply wpFlow_quiets [0] (by decide +kernel) (by decide +kernel) (by kernel_rfl) (by intro _ _ _ d _ h; cases d <;> exact h) _
      · intro A hA δ'
        simp only [pickOps_cons, pickOps_nil, pick1_zero, pick1_succ]
        repeat (go_big_quiet_step ((fail)))
        exact wpQuiet_nil hA.out.symm
      apply wpFlow_quiets [1] (by decide +kernel) (by decide +kernel) (by kernel_rfl) (by intro _ _ _ d _ h; cases d <;> exact h) _
      · intro A hA δ'
        simp only [pickOps_cons, pickOps_nil, pick1_zero, pick1_succ]
        repeat (go_big_quiet_step ((go_at_call 14; (with_reducible first | exact Calls.pure_of_g3 (CR.out _ (GW.out.trans (by repeat (first | with_reducible exact Grew.refl _ | with_reducible apply Grew.alloc | with_reducible apply Grew.grow | with_reducible apply Grew.drew | with_reducible apply Grew.drewN)))) | exact Calls.pure_of_g4 (CR.out _ (GW.out.trans (by repeat (first | with_reducible exact Grew.refl _ | with_reducible apply Grew.alloc | with_reducible apply Grew.grow | with_reducible apply Grew.drew | with_reducible apply Grew.drewN)))) | exact Calls.pure_of_g (CR.out _ (GW.out.trans (by repeat (first | with_reducible exact Grew.refl _ | with_reducible apply Grew.alloc | with_reducible apply Grew.grow | with_reducible apply Grew.drew | with_reducible apply Grew.drewN)))) | exact Calls.pure_of_g5 (CR.out _ (GW.out.trans (by repeat (first | with_reducible exact Grew.refl _ | with_reducible apply Grew.alloc | with_reducible apply Grew.grow | with_reducible apply Grew.drew | with_reducible apply Grew.drewN))))))))
        exact wpQuiet_nil hA.out.symm
      apply wpFlow_quiets [2,3,4,5,6] (by decide +kernel) (by decide +kernel) (by kernel_rfl) (by intro _ _ _ d _ h; cases d <;> exact h) _
      · intro A hA δ'
        simp only [pickOps_cons, pickOps_nil, pick1_zero, pick1_succ]
        repeat (go_big_quiet_step ((fail)))
        exact wpQuiet_nil hA.out.symm
      apply wpFlow_quiets [7] (by decide +kernel) (by decide +kernel) (by kernel_rfl) (by intro _ _ _ d _ h; cases d <;> exact h) _
      · intro A hA δ'
        simp only [pickOps_cons, pickOps_nil, pick1_zero, pick1_succ]
        repeat (go_big_quiet_step ((go_at_call 18; (with_reducible first | exact Calls.pure_of_g3 (CC.out _ (GW.out.trans (by repeat (first | with_reducible exact Grew.refl _ | with_reducible apply Grew.alloc | with_reducible apply Grew.grow | with_reducible apply Grew.drew | with_reducible apply Grew.drewN)))) | exact Calls.pure_of_g4 (CC.out _ (GW.out.trans (by repeat (first | with_reducible exact Grew.refl _ | with_reducible apply Grew.alloc | with_reducible apply Grew.grow | with_reducible apply Grew.drew | with_reducible apply Grew.drewN)))) | exact Calls.pure_of_g (CC.out _ (GW.out.trans (by repeat (first | with_reducible exact Grew.refl _ | with_reducible apply Grew.alloc | with_reducible apply Grew.grow | with_reducible apply Grew.drew | with_reducible apply Grew.drewN)))) | exact Calls.pure_of_g5 (CC.out _ (GW.out.trans (by repeat (first | with_reducible exact Grew.refl _ | with_reducible apply Grew.alloc | with_reducible apply Grew.grow | with_reducible apply Grew.drew | with_reducible apply Grew.drewN))))))))
        exact wpQuiet_nil hA.out.symm
      apply wpFlow_quiets [8] (by decide +kernel) (by decide +kernel) (by kernel_rfl) (by intro _ _ _ d _ h; cases d <;> exact h) _
      · intro A hA δ'
        simp only [pickOps_cons, pickOps_nil, pick1_zero, pick1_succ]
        repeat (go_big_quiet_step ((fail)))
        exact wpQuiet_nil hA.out.symm
      refine wpFlow_end (by decide +kernel) (by kernel_rfl) ?_
      intro δf
      go_wp2
      refine wp_region_flow (by kernel_rfl) ?_
      intro δf
      apply wpFlow_quiets [0,1,2,3,4,5,6,7,8,9,10,11,12,13] (by decide +kernel) (by decide +kernel) (by kernel_rfl) (by intro _ _ _ d _ h; cases d <;> exact h) _
      · intro A hA δ'
        simp only [pickOps_cons, pickOps_nil, pick1_zero, pick1_succ]
        repeat (go_big_quiet_step ((fail)))
        exact wpQuiet_nil hA.out.symm
      refine wpFlow_end (by decide +kernel) (by kernel_rfl) ?_
      intro δf
      go_wp2
      go_ret3
      exact ⟨rfl, GW.out.trans (by repeat (first | with_reducible exact Grew.refl _ | with_reducible apply Grew.alloc | with_reducible apply Grew.grow | with_reducible apply Grew.drew | with_reducible apply Grew.drewN))⟩
end Go.Proofs.Ytleaemeihljlnaa
/- The document's Clash, where there is one. -/
namespace Go.Proofs.Ytleaemeihljlnaa
set_option linter.unusedVariables false
set_option linter.unusedSimpArgs false
open Go.RowKit
/-- What is known at step 'k'. -/
theorem rclash_step {ss : List Nat} {x y : Idb} {xs ys : List Idb} {K : Nat} (hm : Meets ss x xs y ys K) (hs : ∀ s ∈ ss, s = 0 ∨ s = 1) (hx : ss.length = xs.length) (hy : ss.length = ys.length) (k : Nat) (hk : k ≤ K) :
    ∃ (s : Nat) (z u ta tb : Idb), ss[k]? = some s ∧ (s = 0 ∨ s = 1) ∧ xs[k]? = some z ∧ ys[k]? = some u ∧ topk ss x xs k = ta ∧ topk ss y ys k = tb ∧ (prs ss x xs)[k]? = some (pr s ta z) ∧ (prs ss y ys)[k]? = some (pr s tb u) ∧
      ieq (topk ss x xs (k + 1)).l (topk ss y ys (k + 1)).l = decide (k = K) := by
  have hlt := hm.lt
  obtain ⟨s, hsk⟩ : ∃ s, ss[k]? = some s := ⟨_, List.getElem?_eq_getElem (by omega)⟩
  obtain ⟨z, hz⟩ : ∃ s, xs[k]? = some s := ⟨_, List.getElem?_eq_getElem (by omega)⟩
  obtain ⟨u, hu⟩ : ∃ s, ys[k]? = some s := ⟨_, List.getElem?_eq_getElem (by omega)⟩
  have h01 := hs s (List.mem_of_getElem? hsk)
  refine ⟨s, z, u, _, _, hsk, h01, hz, hu, rfl, rfl, prs_at ss x xs k s z hx hsk hz, prs_at ss y ys k s u hy hsk hu, ?_⟩
  by_cases h : k = K
  · subst h
    rw [hm.hit, decide_eq_true rfl]
    exact decide_eq_true rfl
  · rw [decide_eq_false h]
    exact ieq_ne (hm.apart (k + 1) (by omega))
theorem bvs_cell {w : World} {p : Option Addr} {n c : Nat} {ss : List Nat} (h : Shows w (.slice p n c) (bvs ss)) (k s : Nat) (hs : ss[k]? = some s) : ∃ b o, p = some ⟨b, o, none⟩ ∧ b < w.heap.size ∧ w.cell? ⟨b, o + k, none⟩ = some (.bool (s == 0)) := by
  rcases h with ⟨b, o, c, he, hb, h⟩ | ⟨p', c', he, h0⟩
  · simp only [Value.slice.injEq] at he
    exact ⟨b, o, he.1, hb, h k _ (by simp [bvs, hs])⟩
  · have := bvs_len ss
    have := (List.getElem?_eq_some_iff.1 hs).1
    rw [h0] at *
    simp at *
    omega
set_option maxRecDepth 100000 in
set_option maxHeartbeats 6400000 in
theorem rclash_yes (ls : List Idb) (i : Int) (leaf : Idb) (xs : List Idb) (j : Nat) (x : Idb) (K : Nat) (hc : ClashAt ls i leaf xs j x) (hm : Meets (side ls.length j).reverse leaf xs x (path ls j) K) (hxs : (side ls.length j).reverse.length = xs.length)
    (p q : Idb × Idb) (hp : (prs (side ls.length j).reverse leaf xs)[K]? = some p) (hq : (prs (side ls.length j).reverse x (path ls j))[K]? = some q) (v1 v2 : Value) (w : World) (h1 : ShowsI w v1 ls) (h2 : ShowsI w v2 xs) :
    Calls Try.prog 23 #[v1, .int .i64 i, .agg (iv leaf.l), v2] w fun e w' => ∃ va vb, e = .returned (.tuple #[va, vb, .bool true]) ∧ Shows w' va (bys (txt p)) ∧ Shows w' vb (bys (txt q)) ∧ Grew w w' := by
  obtain ⟨rfl, hl, hxj, hne, hck⟩ := hc
  obtain ⟨p1, c1, rfl⟩ := showsI_form h1
  obtain ⟨p2, c2, rfl⟩ := showsI_form h2
  have H1 := Lib.hid h1
  have H2 := Lib.hid h2
  clear h1 h2
  have hll := leaf.len
  have hj := (List.getElem?_eq_some_iff.1 hxj).1
  have hpo : pathOk ls (j : Int) = true := decide_eq_true (by omega)
  have hof : pathOf ls (j : Int) = path ls j := by unfold pathOf; rw [if_pos hpo]; rfl
  have CP := Lib.hid (fun W (g : Grew w W) => rPath_w ls j (.slice p1 ls.length c1) W (H1.out.grew g))
  rw [hpo, hof] at CP
  have hpl := path_len ls j (by omega)
  have hxl := x.len
  have hs := H1.out
  obtain ⟨b, o, rfl, _, hcc, hb, hat⟩ := showsI_some hs (by omega)
  have QL := Lib.hid (fun W (g : Grew w W) δ => load_idg (World.rangeAt.grew (hat j x hxj) g) δ)
  have QM := Lib.hid (fun W (g : Grew w W) => load_idm (World.rangeAt.grew (hat j x hxj) g))
  have CR := Lib.hid (rroots_of ls _ w (by omega) hs)
  have hslen := side_len ls.length j (by omega) (by omega)
  have hxs2 : xs.length < 64 := by rw [← hxs, List.length_reverse]; omega
  have CC := Lib.hid (fun W (g : Grew w W) => rcheck_w (root ls) (ls.length : Nat) (j : Nat) leaf xs (.slice p2 xs.length c2) W (H2.out.grew g) (by omega))
  rw [hck] at CC
  have CS := Lib.hid (fun W => rsides_w ls.length ls.length j (Nat.le_refl _) (by omega) (by omega) hj W)
  have hrl := (root ls).len
  have h01 := side_01 ls.length j
  obtain ⟨R, hR⟩ : ∃ R, root ls = R := ⟨_, rfl⟩
  rw [hR] at CR CC hrl
  obtain ⟨ys, hys⟩ : ∃ ys, path ls j = ys := ⟨_, rfl⟩
  rw [hys] at CP hm hq hpl
  have hpl : ys.length = (side ls.length j).reverse.length := by rw [List.length_reverse]; exact hpl
  have hslen : (side ls.length j).reverse.length < ls.length := by rw [List.length_reverse]; exact hslen
  obtain ⟨ss, hss⟩ : ∃ ss, (side ls.length j).reverse = ss := ⟨_, rfl⟩
  rw [hss] at CS hm hp hq hxs h01 hpl hslen
  obtain ⟨N, hN⟩ : ∃ N, ls.length = N := ⟨_, rfl⟩
  rw [hN] at CP CR CC CS ⊢
  have hjN : (j : Int) < (N : Int) := by omega
  have e1 := ieq_ne hne
  have STEP := Lib.hid (fun k hk => rclash_step hm h01 hxs hpl.symm k hk)
  have hKS := hm.lt
  obtain ⟨S, hS⟩ : ∃ S, ss.length = S := ⟨_, rfl⟩
  have HSl := Lib.hid hS
  have PA := Lib.hid (fun W v1 v2 (a : Shows W v1 (bvs ss)) (b : ShowsI W v2 xs) => climb_w ss leaf xs v1 v2 W h01 hxs (by omega) a b)
  have PB := Lib.hid (fun W v1 v2 (a : Shows W v1 (bvs ss)) (b : ShowsI W v2 ys) => climb_w ss x ys v1 v2 W h01 hpl.symm (by omega) a b)
  have PL1 := Lib.hid (climbL_len ss leaf xs ss.length)
  have PL2 := Lib.hid (climbL_len ss x ys ss.length)
  have HP := Lib.hid hp
  have HQ := Lib.hid hq
  have hSI : (S : Int) < 64 := by omega
  have hb2 : b < w.heap.size := hb
  rw [hS] at hKS
  clear hN hpo hs hat hxj hcc hj hck hne hR hys hss hm hS hxs hpl hslen h01 hof hp hq hb
  go_enter Try.func23, Try.ntmps23
  go_wp2_with (go_at_call 11; refine stop_of ?_)
  unfold Stop
  refine Calls_abs ?_
  intro X hX
  have gX : Grew w X := by rw [hX]; exact (by repeat (first | with_reducible exact Grew.refl _ | with_reducible apply Grew.alloc | with_reducible apply Grew.grow | with_reducible apply Grew.drew | with_reducible apply Grew.drewN))
  have rX : X.rowAt w.heap.size = iv leaf.l := by rw [hX]; simp [go_sem]
  have zX : w.heap.size < X.heap.size := by rw [hX]; simp
  clear hX
  refine (CP.out _ gX).mono ?_
  rintro e W1 ⟨v3, rfl, ho, hg⟩
  have r1 : W1.rowAt w.heap.size = iv leaf.l := by rw [Grew.rowAt hg _ zX]; exact rX
  have z1 : w.heap.size < W1.heap.size := Nat.lt_of_lt_of_le zX hg.size
  have GW := Lib.hid (gX.trans hg)
  have q1 := QL.out W1 GW.out
  have HY := Lib.hid (ho.shows Idb.cs_len)
  clear ho hg CP gX rX zX
  go_wp2
  refine wp_region_flow (by kernel_rfl) ?_
  intro δf
  apply wpFlow_quiets [0] (by decide +kernel) (by decide +kernel) (by kernel_rfl) (by intro _ _ _ d _ h; cases d <;> exact h) _
  · intro A hA δ'
    simp only [pickOps_cons, pickOps_nil, pick1_zero, pick1_succ]
    repeat (go_big_quiet_step ((fail)))
    exact wpQuiet_nil hA.out.symm
  apply wpFlow_quiets [1] (by decide +kernel) (by decide +kernel) (by kernel_rfl) (by intro _ _ _ d _ h; cases d <;> exact h) _
  · intro A hA δ'
    simp only [pickOps_cons, pickOps_nil, pick1_zero, pick1_succ]
    repeat (go_big_quiet_step ((go_at_call 14; (with_reducible first | exact Calls.pure_of_g3 (CR.out _ (GW.out.trans (by repeat (first | with_reducible exact Grew.refl _ | with_reducible apply Grew.alloc | with_reducible apply Grew.grow | with_reducible apply Grew.drew | with_reducible apply Grew.drewN)))) | exact Calls.pure_of_g4 (CR.out _ (GW.out.trans (by repeat (first | with_reducible exact Grew.refl _ | with_reducible apply Grew.alloc | with_reducible apply Grew.grow | with_reducible apply Grew.drew | with_reducible apply Grew.drewN)))) | exact Calls.pure_of_g (CR.out _ (GW.out.trans (by repeat (first | with_reducible exact Grew.refl _ | with_reducible apply Grew.alloc | with_reducible apply Grew.grow | with_reducible apply Grew.drew | with_reducible apply Grew.drewN)))) | exact Calls.pure_of_g5 (CR.out _ (GW.out.trans (by repeat (first | with_reducible exact Grew.refl _ | with_reducible apply Grew.alloc | with_reducible apply Grew.grow | with_reducible apply Grew.drew | with_reducible apply Grew.drewN))))))))
    exact wpQuiet_nil hA.out.symm
  apply wpFlow_quiets [2,3,4,5,6] (by decide +kernel) (by decide +kernel) (by kernel_rfl) (by intro _ _ _ d _ h; cases d <;> exact h) _
  · intro A hA δ'
    simp only [pickOps_cons, pickOps_nil, pick1_zero, pick1_succ]
    repeat (go_big_quiet_step ((fail)))
    exact wpQuiet_nil hA.out.symm
  apply wpFlow_quiets [7] (by decide +kernel) (by decide +kernel) (by kernel_rfl) (by intro _ _ _ d _ h; cases d <;> exact h) _
  · intro A hA δ'
    simp only [pickOps_cons, pickOps_nil, pick1_zero, pick1_succ]
    repeat (go_big_quiet_step ((go_at_call 18; (with_reducible first | exact Calls.pure_of_g3 (CC.out _ (GW.out.trans (by repeat (first | with_reducible exact Grew.refl _ | with_reducible apply Grew.alloc | with_reducible apply Grew.grow | with_reducible apply Grew.drew | with_reducible apply Grew.drewN)))) | exact Calls.pure_of_g4 (CC.out _ (GW.out.trans (by repeat (first | with_reducible exact Grew.refl _ | with_reducible apply Grew.alloc | with_reducible apply Grew.grow | with_reducible apply Grew.drew | with_reducible apply Grew.drewN)))) | exact Calls.pure_of_g (CC.out _ (GW.out.trans (by repeat (first | with_reducible exact Grew.refl _ | with_reducible apply Grew.alloc | with_reducible apply Grew.grow | with_reducible apply Grew.drew | with_reducible apply Grew.drewN)))) | exact Calls.pure_of_g5 (CC.out _ (GW.out.trans (by repeat (first | with_reducible exact Grew.refl _ | with_reducible apply Grew.alloc | with_reducible apply Grew.grow | with_reducible apply Grew.drew | with_reducible apply Grew.drewN))))))))
    exact wpQuiet_nil hA.out.symm
  apply wpFlow_quiets [8] (by decide +kernel) (by decide +kernel) (by kernel_rfl) (by intro _ _ _ d _ h; cases d <;> exact h) _
  · intro A hA δ'
    simp only [pickOps_cons, pickOps_nil, pick1_zero, pick1_succ]
    repeat (go_big_quiet_step ((fail)))
    exact wpQuiet_nil hA.out.symm
  refine wpFlow_end (by decide +kernel) (by kernel_rfl) ?_
  intro δf
  go_wp2
  refine wp_region_flow (by kernel_rfl) ?_
  intro δf
  apply wpFlow_quiets [0,1,2,3,4,5,6,7,8,9,10,11,12,13] (by decide +kernel) (by decide +kernel) (by kernel_rfl) (by intro _ _ _ d _ h; cases d <;> exact h) _
  · intro A hA δ'
    simp only [pickOps_cons, pickOps_nil, pick1_zero, pick1_succ]
    repeat (go_big_quiet_step ((fail)))
    exact wpQuiet_nil hA.out.symm
  refine wpFlow_end (by decide +kernel) (by kernel_rfl) ?_
  intro δf
  clear CR CC
  go_wp2_with (go_at_call 33; refine stop_of ?_)
  unfold Stop
  refine Calls_abs ?_
  intro X hX
  have gX : Grew W1 X := by rw [hX]; exact (by repeat (first | with_reducible exact Grew.refl _ | with_reducible apply Grew.alloc | with_reducible apply Grew.grow | with_reducible apply Grew.drew | with_reducible apply Grew.drewN))
  refine (CS.out X).mono ?_
  rintro e W2 ⟨v4, rfl, ho, hg⟩
  obtain ⟨p4, c4, rfl⟩ := shows_form ho.shows
  have g2 : Grew W1 W2 := gX.trans hg
  have r2 : W2.rowAt w.heap.size = iv leaf.l := by rw [Grew.rowAt g2 _ z1]; exact r1
  have z2 : w.heap.size < W2.heap.size := Nat.lt_of_lt_of_le z1 g2.size
  have H4 := Lib.hid ho.shows
  rw [bvs_len, HSl.out] at H4 ⊢
  have GW2 := Lib.hid (GW.out.trans g2)
  have HY2 := Lib.hid (HY.out.grew g2)
  clear ho hg hX gX g2 CS q1 GW HY r1 z1
  go_wp2_with (go_at_call 34; refine stop_of ?_)
  unfold Stop
  refine Calls_abs ?_
  intro X hX
  have gX : Grew W2 X := by rw [hX]; exact (by repeat (first | with_reducible exact Grew.refl _ | with_reducible apply Grew.alloc | with_reducible apply Grew.grow | with_reducible apply Grew.drew | with_reducible apply Grew.drewN))
  refine (PA.out X _ _ (H4.out.grew gX) (H2.out.grew (GW2.out.trans gX))).mono ?_
  rintro e W3 ⟨v5, rfl, ho, hg⟩
  have hlen := PL1.out
  rw [HSl.out] at hlen ho
  obtain ⟨g1, cap1, hv, hgb, hgs, hcap⟩ := (ho.form).resolve_left (by rintro ⟨_, h⟩; rw [h] at hlen; simp at hlen)
  rw [hlen] at hv hcap
  subst hv
  have g3 : Grew W2 W3 := gX.trans hg
  have HA := Lib.hid ho
  have GW3 := Lib.hid (GW2.out.trans g3)
  have HY3 := Lib.hid (HY2.out.grew g3)
  have H43 := Lib.hid (H4.out.grew g3)
  have q3 := QM.out W3 GW3.out
  clear ho hg hX gX g3 r2 z2 GW2 HY2 hgb hlen PA
  go_wp2_with (go_at_call 34; refine stop_of ?_)
  unfold Stop
  refine Calls_abs ?_
  intro X hX
  have gX : Grew W3 X := by rw [hX]; exact (by repeat (first | with_reducible exact Grew.refl _ | with_reducible apply Grew.alloc | with_reducible apply Grew.grow | with_reducible apply Grew.drew | with_reducible apply Grew.drewN))
  refine (PB.out X _ _ (H43.out.grew gX) (HY3.out.grew gX)).mono ?_
  rintro e W4 ⟨v6, rfl, ho, hg⟩
  have hlen := PL2.out
  rw [HSl.out] at hlen ho
  obtain ⟨g2, cap2, hv, hgb, hgs2, hcap2⟩ := (ho.form).resolve_left (by rintro ⟨_, h⟩; rw [h] at hlen; simp at hlen)
  rw [hlen] at hv hcap2
  subst hv
  have g4 : Grew W3 W4 := gX.trans hg
  have HA4 := Lib.hid (HA.out.grew g4)
  have HB4 := Lib.hid ho
  have GW4 := Lib.hid (GW3.out.trans g4)
  have HY4 := Lib.hid (HY3.out.grew g4)
  have H44 := Lib.hid (H43.out.grew g4)
  have H24 := Lib.hid (H2.out.grew (GW3.out.trans g4))
  clear ho hg hX gX g4 q3 HA GW3 HY3 H43 hgb hlen PB H4 PL2 hgs QL QM
  clear H1 H2 hll hxl hxs2 hrl e1 hl
  have hpl' := hpl
  clear hpl
  go_wp2
  go_loopw [17] (fun i wr => ∃ k : Nat, k ≤ K ∧ i = .int .i64 k ∧ Grew W4 wr) (fun i _ => K + 1 - (intOf i).toNat)
  case atStart => exact ⟨0, by omega, rfl, Grew.refl _⟩
  case round =>
    obtain ⟨k, hk, rfl, gk⟩ := hrel
    obtain ⟨s, z, u, ta, tb, y1, y2, y3, y4, y5, y6, hpa, hpb, hno⟩ := STEP.out k hk
    obtain ⟨ua, hua⟩ : ∃ u, topk ss leaf xs (k + 1) = u := ⟨_, rfl⟩
    obtain ⟨ub, hub⟩ : ∃ u, topk ss x ys (k + 1) = u := ⟨_, rfl⟩
    rw [hua, hub] at hno
    have hkSn : k < ss.length := by rw [HSl.out]; omega
    have ra := OwnE.range Idb.cs_len (HA4.out.grew gk) (k + 1) _ (climbL_get ss leaf xs _ _ (by omega))
    have rb := OwnE.range Idb.cs_len (HB4.out.grew gk) (k + 1) _ (climbL_get ss x ys _ _ (by omega))
    have ra0 := OwnE.range Idb.cs_len (HA4.out.grew gk) k _ (climbL_get ss leaf xs _ _ (by omega))
    have rb0 := OwnE.range Idb.cs_len (HB4.out.grew gk) k _ (climbL_get ss x ys _ _ (by omega))
    rw [hua] at ra
    rw [hub] at rb
    rw [y5] at ra0
    rw [y6] at rb0
    have hkS : (k : Int) < (S : Int) := by omega
    have hc1 : (S : Int) + 1 ≤ (cap1 : Int) := by omega
    have hc2 : (S : Int) + 1 ≤ (cap2 : Int) := by omega
    have HK := Lib.hid hk
    have GK := Lib.hid (GW4.out.trans gk)
    have gkk := Lib.hid gk
    have l1 : ∀ δ, (rowLoad 29 (.pointer (some ⟨g1, (k + 1) * 32, none⟩))).run Try.prog (wr.grow δ) = .ok (.value (.agg (iv ua.l))) (wr.grow δ) := fun δ => load_idm (World.rangeAt.grew ra ⟨δ, rfl⟩)
    have l2 : ∀ δ, (rowLoad 29 (.pointer (some ⟨g2, (k + 1) * 32, none⟩))).run Try.prog (wr.grow δ) = .ok (.value (.agg (iv ub.l))) (wr.grow δ) := fun δ => load_idm (World.rangeAt.grew rb ⟨δ, rfl⟩)
    have L3 := Lib.hid (show ∀ δ, (rowLoad 29 (.pointer (some ⟨g1, k * 32, none⟩))).run Try.prog (wr.grow δ) = .ok (.value (.agg (iv ta.l))) (wr.grow δ) from fun δ => load_idm (World.rangeAt.grew ra0 ⟨δ, rfl⟩))
    have L4 := Lib.hid (show ∀ δ, (rowLoad 29 (.pointer (some ⟨g2, k * 32, none⟩))).run Try.prog (wr.grow δ) = .ok (.value (.agg (iv tb.l))) (wr.grow δ) from fun δ => load_idm (World.rangeAt.grew rb0 ⟨δ, rfl⟩))
    have m1 := ua.len
    have m2 := ub.len
    clear ra rb ra0 rb0 y5 y6 hua hub hk
    by_cases hkK : k = K
    · rw [decide_eq_true hkK] at hno
      subst hkK
      have hp' : p = pr s ta z := by have := HP.out; rw [hpa] at this; exact (Option.some.inj this).symm
      have hq' : q = pr s tb u := by have := HQ.out; rw [hpb] at this; exact (Option.some.inj this).symm
      subst hp' hq'
      obtain ⟨b4, o4, rfl, hb4, hc4⟩ := bvs_cell H44.out k s y1
      obtain ⟨b2, o2, rfl, hn2, hcc2, hb2', hat2⟩ := showsI_some H24.out (by have := (List.getElem?_eq_some_iff.1 y3).1; omega)
      have hy4 := HY4.out
      obtain ⟨p3, c3, rfl⟩ := showsI_form hy4
      obtain ⟨b3, o3, rfl, hn3, hcc3, hb3, hat3⟩ := showsI_some hy4 (by have := (List.getElem?_eq_some_iff.1 y4).1; omega)
      have l5 : ∀ δ, (rowLoad 29 (.pointer (some ⟨b2, o2 + k * 32, none⟩))).run Try.prog (wr.grow δ) = .ok (.value (.agg (iv z.l))) (wr.grow δ) := fun δ => load_idm (World.rangeAt.grew (hat2 k z y3) (gkk.out.trans ⟨δ, rfl⟩))
      have l6 : ∀ δ, (rowLoad 29 (.pointer (some ⟨b3, o3 + k * 32, none⟩))).run Try.prog (wr.grow δ) = .ok (.value (.agg (iv u.l))) (wr.grow δ) := fun δ => load_idm (World.rangeAt.grew (hat3 k u y4) (gkk.out.trans ⟨δ, rfl⟩))
      have C4 := Lib.hid (fun W (g : Grew W4 W) => g.cell hc4)
      have hkx : (k : Int) < (xs.length : Int) := by have := (List.getElem?_eq_some_iff.1 y3).1; omega
      have hky : (k : Int) < (ys.length : Int) := by have := (List.getElem?_eq_some_iff.1 y4).1; omega
      clear hpa hpb hat2 hat3 hy4 hn2 hn3 hcc2 hcc3 y1 y3 y4 hc4 hkSn
      go_wp2
      refine wp_region_flow (by kernel_rfl) ?_
      intro δf
      apply wpFlow_quiets [0,1,2,3,4,5,6,7,8,9,10] (by decide +kernel) (by decide +kernel) (by kernel_rfl) (by intro _ _ _ d _ h; cases d <;> exact h) _
      · intro A hA δ'
        simp only [pickOps_cons, pickOps_nil, pick1_zero, pick1_succ]
        repeat (go_big_quiet_step ((fail)))
        exact wpQuiet_nil hA.out.symm
      refine wpFlow_end (by decide +kernel) (by kernel_rfl) ?_
      intro δf
      have l3 := L3.out
      have l4 := L4.out
      clear m1 m2 hno l1 l2
      go_wp2
      have c4' := C4.out wr gkk.out
      have hb5 : b4 < wr.heap.size := Nat.lt_of_lt_of_le hb4 gkk.out.size
      clear hb4 gk
      refine wp_region_flow (by kernel_rfl) ?_
      intro δf
      apply wpFlow_quiets [0,1,2,3,4,5,6,7,8,9,10,11,13,14,15,16,17,18,19,20,21,22,23,24] (by decide +kernel) (by decide +kernel) (by kernel_rfl) (by intro _ _ _ d _ h; cases d <;> exact h) _
      · intro A hA δ'
        simp only [pickOps_cons, pickOps_nil, pick1_zero, pick1_succ]
        repeat (go_big_quiet_step ((fail)))
        exact wpQuiet_nil hA.out.symm
      refine wpFlow_one 12 (by decide +kernel) (by kernel_rfl) (by kernel_rfl) ?_
      refine wpFlowS_intro ?_
      simp only [pickOps_cons, pickOps_nil, pick1_zero, pick1_succ]
      intro δf
      go_wp2_with (go_at_call 40; refine (rtx_w s y2 ta z _).mono ?_; rintro e w5 ⟨v5, rfl, hs5, hg5⟩)
      refine ⟨(by first | assumption | (simp only [grow_grow, Array.append_assoc]; assumption) | exact Grew.refl _ | (simp only [grow_grow, Array.append_assoc]; exact (by repeat (first | with_reducible exact Grew.refl _ | with_reducible apply Grew.alloc | with_reducible apply Grew.grow | with_reducible apply Grew.drew | with_reducible apply Grew.drewN))) | exact (by repeat (first | with_reducible exact Grew.refl _ | with_reducible apply Grew.alloc | with_reducible apply Grew.grow | with_reducible apply Grew.drew | with_reducible apply Grew.drewN))), ?_⟩
      have g5 : Grew wr w5 := (show Grew wr _ from (by repeat (first | with_reducible exact Grew.refl _ | with_reducible apply Grew.alloc | with_reducible apply Grew.grow | with_reducible apply Grew.drew | with_reducible apply Grew.drewN))).trans hg5
      have G5 := Lib.hid g5
      have HS5 := Lib.hid hs5
      clear hg5 hs5 g5
      refine wpFlow_one 25 (by decide +kernel) (by kernel_rfl) (by kernel_rfl) ?_
      refine wpFlowS_intro ?_
      simp only [pickOps_cons, pickOps_nil, pick1_zero, pick1_succ]
      intro δf
      go_wp2_with (go_at_call 40; refine (rtx_w s y2 tb u _).mono ?_; rintro e w6 ⟨v6, rfl, hs6, hg6⟩)
      refine ⟨(by first | assumption | (simp only [grow_grow, Array.append_assoc]; assumption) | exact Grew.refl _ | (simp only [grow_grow, Array.append_assoc]; exact (by repeat (first | with_reducible exact Grew.refl _ | with_reducible apply Grew.alloc | with_reducible apply Grew.grow | with_reducible apply Grew.drew | with_reducible apply Grew.drewN))) | exact (by repeat (first | with_reducible exact Grew.refl _ | with_reducible apply Grew.alloc | with_reducible apply Grew.grow | with_reducible apply Grew.drew | with_reducible apply Grew.drewN))), ?_⟩
      have g6 : Grew w5 w6 := (show Grew w5 _ from (by repeat (first | with_reducible exact Grew.refl _ | with_reducible apply Grew.alloc | with_reducible apply Grew.grow | with_reducible apply Grew.drew | with_reducible apply Grew.drewN))).trans hg6
      have G6 := Lib.hid g6
      have HS6 := Lib.hid hs6
      clear hg6 hs6 g6
      apply wpFlow_quiets [26,27,28] (by decide +kernel) (by decide +kernel) (by kernel_rfl) (by intro _ _ _ d _ h; cases d <;> exact h) _
      · intro A hA δ'
        simp only [pickOps_cons, pickOps_nil, pick1_zero, pick1_succ]
        repeat (go_big_quiet_step ((fail)))
        exact wpQuiet_nil hA.out.symm
      refine wpFlow_end (by decide +kernel) (by kernel_rfl) ?_
      intro δf
      go_wp2
      go_ret3
      exact ⟨_, _, rfl, HS5.out.grew (G6.out.trans (by repeat (first | with_reducible exact Grew.refl _ | with_reducible apply Grew.alloc | with_reducible apply Grew.grow | with_reducible apply Grew.drew | with_reducible apply Grew.drewN))), HS6.out.grew (by repeat (first | with_reducible exact Grew.refl _ | with_reducible apply Grew.alloc | with_reducible apply Grew.grow | with_reducible apply Grew.drew | with_reducible apply Grew.drewN)), GK.out.trans (G5.out.trans (G6.out.trans (by repeat (first | with_reducible exact Grew.refl _ | with_reducible apply Grew.alloc | with_reducible apply Grew.grow | with_reducible apply Grew.drew | with_reducible apply Grew.drewN))))⟩
    · rw [decide_eq_false hkK] at hno
      clear hpa hpb y1 y2 y3 y4 hkSn L3 L4
      go_wp2
      refine wp_region_flow (by kernel_rfl) ?_
      intro δf
      apply wpFlow_quiets [0,1,2,3,4,5,6,7,8,9,10] (by decide +kernel) (by decide +kernel) (by kernel_rfl) (by intro _ _ _ d _ h; cases d <;> exact h) _
      · intro A hA δ'
        simp only [pickOps_cons, pickOps_nil, pick1_zero, pick1_succ]
        repeat (go_big_quiet_step ((fail)))
        exact wpQuiet_nil hA.out.symm
      refine wpFlow_end (by decide +kernel) (by kernel_rfl) ?_
      intro δf
      go_wp2
      exact ⟨⟨k + 1, by have := HK.out; omega, by go_num, gkk.out.trans (by repeat (first | with_reducible exact Grew.refl _ | with_reducible apply Grew.alloc | with_reducible apply Grew.grow | with_reducible apply Grew.drew | with_reducible apply Grew.drewN))⟩, by simp only [intOf]; have := HK.out; omega⟩
end Go.Proofs.Ytleaemeihljlnaa
/- The walk of TreeClash. -/
namespace Go.Proofs.Ytleaemeihljlnaa
set_option linter.unusedVariables false
set_option linter.unusedSimpArgs false
open Go.RowKit
theorem conv_str {w : World} {v : Value} {l : List Nat} (h : Shows w v (bys l)) (δ : Junk) : (convert 23 9 v).run Try.prog (w.grow δ) = .ok (.string (bstr l)) (w.grow δ) := shows_string (h.grew ⟨δ, rfl⟩)
theorem txt_inj {p q : Idb × Idb} (h : txt p = txt q) : p = q := by
  obtain ⟨a, b⟩ := p
  obtain ⟨c, d⟩ := q
  unfold txt textL at h
  have h1 := List.append_inj (List.cons.inj h).2 (by rw [a.len, c.len])
  have e1 : a = c := idb_ext h1.1
  have e2 : b = d := idb_ext h1.2
  rw [e1, e2]
theorem txt_lt (p : Idb × Idb) : ∀ c ∈ txt p, c < 256 := text_lt p.1 p.2
theorem sum_txt (p : Idb × Idb) : sum (txt p) = (p.1.node p.2).l := rfl
/-- What there is to tell. -/
theorem clash_tell {ls : List Idb} {i : Int} {leaf : Idb} {xs : List Idb} {j : Nat} {x : Idb} (hc : ClashAt ls i leaf xs j x) :
    ∃ (K : Nat) (p q : Idb × Idb), Meets (side ls.length j).reverse leaf xs x (path ls j) K ∧ (side ls.length j).reverse.length = xs.length ∧ (prs (side ls.length j).reverse leaf xs)[K]? = some p ∧ (prs (side ls.length j).reverse x (path ls j))[K]? = some q ∧
      txt p ≠ txt q ∧ ieq (p.1.node p.2).l (q.1.node q.2).l = true := by
  obtain ⟨rfl, hl, hx, hne, hck⟩ := hc
  have hj := (List.getElem?_eq_some_iff.1 hx).1
  have hpl := path_len ls j (by omega)
  rw [← List.length_reverse] at hpl
  have hpl : (side ls.length j).reverse.length = (path ls j).length := by rw [List.length_reverse, path_len ls j (by omega)]
  have ht := top_path ls.length ls j x (Nat.le_refl _) (by omega) hx
  unfold chk at hck
  rw [Bool.and_eq_true, Bool.and_eq_true, decide_eq_true_eq] at hck
  obtain ⟨_, h1, h2⟩ := hck
  have hs : sidesOf (ls.length : Nat) (j : Nat) = (side ls.length j).reverse := rfl
  rw [hs] at h1 h2
  have h3 := idb_ext (of_decide_eq_true h2)
  obtain ⟨K, hm⟩ := meets_some (side ls.length j).reverse leaf xs x (path ls j) hne h1 hpl (by rw [h3, ht])
  obtain ⟨s, z, u, p, q, _, _, _, _, _, _, hp, hq, hne2, hno⟩ := clash_step hm (side_01 ls.length j) h1 hpl K (Nat.le_refl _)
  refine ⟨K, p, q, hm, h1, hp, hq, fun h => ?_, by rw [hno]; exact decide_eq_true rfl⟩
  have := (peq_iff p q).2 (txt_inj h)
  rw [this] at hne2
  cases hne2
set_option maxRecDepth 100000 in
set_option maxHeartbeats 6400000 in
theorem treeClash_walk (q : Option Addr) (c : Nat) (l : List Idb) (hm : l.length ≤ maxLen) (i : Int) (r : Idb) (q1 : Option Addr) (c1 : Nat) (l1 : List Idb) (hm1 : l1.length ≤ maxLen) (w : World)
    (hs : ShowsI w (.slice q l.length c) l) (hs1 : ShowsI w (.slice q1 l1.length c1) l1) :
    Calls Try.prog 7 #[.slice q l.length c, .int .i64 i, .agg (iv r.l), .slice q1 l1.length c1] w fun e w' => e = .returned (.bool true) ∧ Grew w w' := by
  have HS := Lib.hid hs
  have HS1 := Lib.hid hs1
  clear hs hm hs1 hm1
  have hrl := r.len
  obtain ⟨N, hN⟩ : ∃ N, l.length = N := ⟨_, rfl⟩
  have HN := Lib.hid hN
  obtain ⟨M, hM⟩ : ∃ N, l1.length = N := ⟨_, rfl⟩
  have HM := Lib.hid hM
  rw [hN] at HS ⊢
  rw [hM] at HS1 ⊢
  by_cases h4 : ¬ (¬ 64 < (N : Int) ∧ ¬ 12 < (M : Int))
  · have h5 : 64 < (N : Int) ∨ (¬ 64 < (N : Int) ∧ 12 < (M : Int)) := by omega
    clear h4 hN hM
    rcases h5 with h1 | ⟨h1, h2⟩
    all_goals
      go_enter Try.func7, Try.ntmps7
      go_wp2_with (go_at_call 9; refine (awake_w _).mono ?_; rintro e w' ⟨rfl, δ, rfl⟩)
      go_ret
      exact ⟨rfl, (by repeat (first | with_reducible exact Grew.refl _ | with_reducible apply Grew.alloc | with_reducible apply Grew.grow | with_reducible apply Grew.drew | with_reducible apply Grew.drewN))⟩
  obtain ⟨h1, h2⟩ : ¬ 64 < (N : Int) ∧ ¬ 12 < (M : Int) := by omega
  clear h4
  rcases clash_cases l i r l1 with ⟨j, x, hc⟩ | hnone
  · obtain ⟨K, p, q', hmt, hlen, hp, hq, hne, hno⟩ := clash_tell hc
    have CA := Lib.hid (fun W (g : Grew w W) => clash_yes l i r l1 j x K hc hmt hlen p q' hp hq (.slice q N c) (.slice q1 M c1) W (HS.out.grew g) (HS1.out.grew g))
    have CB := Lib.hid (fun W (g : Grew w W) => rclash_yes l i r l1 j x K hc hmt hlen p q' hp hq (.slice q N c) (.slice q1 M c1) W (HS.out.grew g) (HS1.out.grew g))
    have e1 : ((bstr (txt p)).toList == (bstr (txt p)).toList) = true := by rw [eq_bstr _ _ (txt_lt p) (txt_lt p)]; exact decide_eq_true rfl
    have e2 : ((bstr (txt q')).toList == (bstr (txt q')).toList) = true := by rw [eq_bstr _ _ (txt_lt q') (txt_lt q')]; exact decide_eq_true rfl
    have e3 : ((bstr (txt p)).toList == (bstr (txt q')).toList) = false := by rw [eq_bstr _ _ (txt_lt p) (txt_lt q')]; exact decide_eq_false hne
    have K1 : Hid (∀ W v, Shows W v (bys (txt p)) → Calls Try.prog 21 #[v] W fun e w' => e = .returned (.agg (iv (p.1.node p.2).l)) ∧ Grew W w') := Lib.hid (fun W v g => sum_w (txt p) v W (by unfold txt; rw [text_len]; decide) (txt_lt p) g)
    have K2 : Hid (∀ W v, Shows W v (bys (txt q')) → Calls Try.prog 21 #[v] W fun e w' => e = .returned (.agg (iv (q'.1.node q'.2).l)) ∧ Grew W w') := Lib.hid (fun W v g => sum_w (txt q') v W (by unfold txt; rw [text_len]; decide) (txt_lt q') g)
    have n1 := (p.1.node p.2).len
    have n2 := (q'.1.node q'.2).len
    obtain ⟨A, hA⟩ : ∃ A, p.1.node p.2 = A := ⟨_, rfl⟩
    obtain ⟨B, hB⟩ : ∃ A, q'.1.node q'.2 = A := ⟨_, rfl⟩
    rw [hA] at K1 n1 hno
    rw [hB] at K2 n2 hno
    obtain ⟨P, hP⟩ : ∃ A, txt p = A := ⟨_, rfl⟩
    obtain ⟨Q, hQ⟩ : ∃ A, txt q' = A := ⟨_, rfl⟩
    rw [hP] at CA CB e1 e3 K1
    rw [hQ] at CA CB e2 e3 K2
    clear hA hB hP hQ hc hmt hlen hp hq hne hN hM HS HS1 HN HM
    go_enter Try.func7, Try.ntmps7
    go_wp2_with (first | (go_at_call 9; refine (awake_w _).mono ?_; rintro e w' ⟨rfl, δ, rfl⟩) | (go_at_call 22; refine stop_of ?_))
    unfold Stop
    refine Calls_abs ?_
    intro X hX
    have gX : Grew w X := by rw [hX]; exact (by repeat (first | with_reducible exact Grew.refl _ | with_reducible apply Grew.alloc | with_reducible apply Grew.grow | with_reducible apply Grew.drew | with_reducible apply Grew.drewN))
    have rX : X.rowAt w.heap.size = iv r.l := by rw [hX]; simp [go_sem]
    have zX : w.heap.size < X.heap.size := by rw [hX]; simp; omega
    clear hX
    refine (CA.out _ gX).mono ?_
    rintro e W1 ⟨va, vb, rfl, sa, sb, hg⟩
    have r1 : W1.rowAt w.heap.size = iv r.l := by rw [Grew.rowAt hg _ zX]; exact rX
    have z1 : w.heap.size < W1.heap.size := Nat.lt_of_lt_of_le zX hg.size
    have G1 := Lib.hid (gX.trans hg)
    have SA := Lib.hid sa
    have SB := Lib.hid sb
    clear sa sb hg gX rX zX CA
    go_wp2_with (go_at_call 23; refine stop_of ?_)
    unfold Stop
    refine Calls_abs ?_
    intro X hX
    have gX : Grew W1 X := by rw [hX]; exact (by repeat (first | with_reducible exact Grew.refl _ | with_reducible apply Grew.alloc | with_reducible apply Grew.grow | with_reducible apply Grew.drew | with_reducible apply Grew.drewN))
    refine (CB.out _ (G1.out.trans gX)).mono ?_
    rintro e W2 ⟨vc, vd, rfl, sc, sd, hg⟩
    have g2 : Grew W1 W2 := gX.trans hg
    have SA2 := Lib.hid (SA.out.grew g2)
    have SB2 := Lib.hid (SB.out.grew g2)
    have G2 := Lib.hid (G1.out.trans g2)
    have s1 := conv_str SA2.out
    have s2 := conv_str SB2.out
    have s3 := conv_str sc
    have s4 := conv_str sd
    have t1 := shows_string SA2.out
    have t2 := shows_string SB2.out
    have t3 := shows_string sc
    have t4 := shows_string sd
    clear hX gX hg g2 sc sd CB SA SB G1 r1 z1
    go_wp2_with (go_at_call 21; refine stop_of ?_)
    unfold Stop
    refine (K1.out _ va SA2.out).mono ?_
    rintro e w' ⟨rfl, δ1, rfl⟩
    go_wp2_with (go_at_call 21; refine stop_of ?_)
    unfold Stop
    refine (K2.out _ vb (SB2.out.grew (by repeat (first | with_reducible exact Grew.refl _ | with_reducible apply Grew.alloc | with_reducible apply Grew.grow | with_reducible apply Grew.drew | with_reducible apply Grew.drewN)))).mono ?_
    rintro e w' ⟨rfl, δ2, rfl⟩
    go_wp2
    go_ret
    exact ⟨rfl, G2.out.trans (by repeat (first | with_reducible exact Grew.refl _ | with_reducible apply Grew.alloc | with_reducible apply Grew.grow | with_reducible apply Grew.drew | with_reducible apply Grew.drewN))⟩
  · have CA := Lib.hid (fun W (g : Grew w W) => clash_none l i r l1 (.slice q N c) (.slice q1 M c1) W (HS.out.grew g) (HS1.out.grew g) (by omega) hnone)
    have CB := Lib.hid (fun W (g : Grew w W) => rclash_none l i r l1 (.slice q N c) (.slice q1 M c1) W (HS.out.grew g) (HS1.out.grew g) (by omega) (by omega) hnone)
    have CR := Lib.hid (roots_of l _ w (by omega) HS.out)
    have hnil : ∀ W : World, Shows W (.slice none 0 0) (bys []) := fun W => .inr ⟨_, _, rfl, rfl⟩
    have t0 := fun W : World => shows_string (hnil W)
    have e1 : ((bstr []).toList == (bstr []).toList) = true := by rw [eq_bstr [] [] (by simp) (by simp)]; exact decide_eq_true rfl
    have hrl2 := (root l).len
    have h3 : i < 0 ∨ (¬ i < 0 ∧ (N : Int) ≤ i) ∨ ∃ (j : Nat) (x : Idb), i = j ∧ (j : Int) < N ∧ l[j]? = some x ∧ (r = x ∨ (r ≠ x ∧ chk (root l) (N : Nat) (j : Nat) r l1 = false)) := by
      rcases hnone with h | ⟨j, x, h5, h6, h7, h8⟩
      · have h := of_decide_eq_false h
        omega
      · have := (List.getElem?_eq_some_iff.1 h7).1
        exact .inr (.inr ⟨j, x, h5, by omega, h7, by rw [hN] at h8; exact h8⟩)
    clear hnone hnil
    have pre : ∀ (Q : World → Prop), (∀ W, Grew w W → W.rowAt w.heap.size = iv r.l → w.heap.size < W.heap.size → Q W) → Q = Q := fun _ _ => rfl
    clear pre
    have h3' := h3
    clear h3
    rcases h3' with h3 | ⟨h3, h5⟩ | ⟨j, x, rfl, hjN, hx, hr⟩
    · clear HN HM HS HS1 CR hN hM
      go_enter Try.func7, Try.ntmps7
      go_wp2_with (first | (go_at_call 9; refine (awake_w _).mono ?_; rintro e w' ⟨rfl, δ, rfl⟩) | (go_at_call 22; refine (CA.out _ (by repeat (first | with_reducible exact Grew.refl _ | with_reducible apply Grew.alloc | with_reducible apply Grew.grow | with_reducible apply Grew.drew | with_reducible apply Grew.drewN))).mono ?_; rintro e w' ⟨rfl, δ1, rfl⟩) | (go_at_call 23; refine (CB.out _ (by repeat (first | with_reducible exact Grew.refl _ | with_reducible apply Grew.alloc | with_reducible apply Grew.grow | with_reducible apply Grew.drew | with_reducible apply Grew.drewN))).mono ?_; rintro e w' ⟨rfl, δ2, rfl⟩))
      refine wp_region_flow (by kernel_rfl) ?_
      intro δf
      apply wpFlow_quiets [0,1,2,3,4,5,6,7,8,9,10,11,12,13,14,15,16,17,18,19,20,21,22,23,24,25,26,27] (by decide +kernel) (by decide +kernel) (by kernel_rfl) (by intro _ _ _ d _ h; cases d <;> exact h) _
      · intro A hA δ'
        simp only [pickOps_cons, pickOps_nil, pick1_zero, pick1_succ]
        repeat (go_big_quiet_step ((fail)))
        exact wpQuiet_nil hA.out.symm
      refine wpFlow_end (by decide +kernel) (by kernel_rfl) ?_
      intro δf
      go_wp2
      go_ret
      exact ⟨rfl, (by repeat (first | with_reducible exact Grew.refl _ | with_reducible apply Grew.alloc | with_reducible apply Grew.grow | with_reducible apply Grew.drew | with_reducible apply Grew.drewN))⟩
    · have d1 : decide (i < 0) = false := decide_eq_false h3
      clear HN HM HS HS1 CR hN hM
      go_enter Try.func7, Try.ntmps7
      go_wp2_with (first | (go_at_call 9; refine (awake_w _).mono ?_; rintro e w' ⟨rfl, δ, rfl⟩) | (go_at_call 22; refine (CA.out _ (by repeat (first | with_reducible exact Grew.refl _ | with_reducible apply Grew.alloc | with_reducible apply Grew.grow | with_reducible apply Grew.drew | with_reducible apply Grew.drewN))).mono ?_; rintro e w' ⟨rfl, δ1, rfl⟩) | (go_at_call 23; refine (CB.out _ (by repeat (first | with_reducible exact Grew.refl _ | with_reducible apply Grew.alloc | with_reducible apply Grew.grow | with_reducible apply Grew.drew | with_reducible apply Grew.drewN))).mono ?_; rintro e w' ⟨rfl, δ2, rfl⟩))
      refine wp_region_flow (by kernel_rfl) ?_
      intro δf
      apply wpFlow_quiets [0,1,2,3,4,5,6,7,8,9,10,11,12,13,14,15,16,17,18,19,20,21,22,23,24,25,26,27] (by decide +kernel) (by decide +kernel) (by kernel_rfl) (by intro _ _ _ d _ h; cases d <;> exact h) _
      · intro A hA δ'
        simp only [pickOps_cons, pickOps_nil, pick1_zero, pick1_succ]
        repeat (go_big_quiet_step ((fail)))
        exact wpQuiet_nil hA.out.symm
      refine wpFlow_end (by decide +kernel) (by kernel_rfl) ?_
      intro δf
      go_wp2
      go_ret
      exact ⟨rfl, (by repeat (first | with_reducible exact Grew.refl _ | with_reducible apply Grew.alloc | with_reducible apply Grew.grow | with_reducible apply Grew.drew | with_reducible apply Grew.drewN))⟩
    · have hs := HS.out
      rw [← hN] at hs
      obtain ⟨b, o, rfl, _, hcc, hb, hat⟩ := showsI_some hs (by omega)
      have QL := Lib.hid (fun W (g : Grew w W) δ => load_idg (World.rangeAt.grew (hat j x hx) g) δ)
      have hxl := x.len
      have d1 : decide ((j : Int) < 0) = false := decide_eq_false (by omega)
      have d2 : decide (N ≤ j) = false := decide_eq_false (by omega)
      have CC := Lib.hid (fun W (g : Grew w W) => check_w (root l) (N : Nat) (j : Nat) r l1 (.slice q1 M c1) W (HS1.out.grew g) (by omega))
      obtain ⟨R, hR⟩ : ∃ R, root l = R := ⟨_, rfl⟩
      rw [hR] at CR CC hr hrl2
      clear HN HM HS HS1 hN hM hs hat hx hcc hR
      rcases hr with rfl | ⟨hne, hck⟩
      · have e2 : ieq r.l r.l = true := decide_eq_true rfl
        clear CC CR
        go_enter Try.func7, Try.ntmps7
        go_wp2_with (first | (go_at_call 9; refine (awake_w _).mono ?_; rintro e w' ⟨rfl, δ, rfl⟩) | (go_at_call 22; refine (CA.out _ (by repeat (first | with_reducible exact Grew.refl _ | with_reducible apply Grew.alloc | with_reducible apply Grew.grow | with_reducible apply Grew.drew | with_reducible apply Grew.drewN))).mono ?_; rintro e w' ⟨rfl, δ1, rfl⟩) | (go_at_call 23; refine (CB.out _ (by repeat (first | with_reducible exact Grew.refl _ | with_reducible apply Grew.alloc | with_reducible apply Grew.grow | with_reducible apply Grew.drew | with_reducible apply Grew.drewN))).mono ?_; rintro e w' ⟨rfl, δ2, rfl⟩))
        refine code_abs ?_
        intro Y hY
        have gY : Grew w Y := by rw [hY]; exact (by repeat (first | with_reducible exact Grew.refl _ | with_reducible apply Grew.alloc | with_reducible apply Grew.grow | with_reducible apply Grew.drew | with_reducible apply Grew.drewN))
        have rY : Y.rowAt w.heap.size = iv r.l := by rw [hY]; simp [go_sem]
        have zY : w.heap.size < Y.heap.size := by rw [hY]; simp; omega
        have GY := Lib.hid gY
        have q2 := QL.out Y gY
        clear hY gY CA CB
        refine wp_region_flow (by kernel_rfl) ?_
        intro δf
        apply wpFlow_quiets [0,1,2,3,4,5,6,7,8,9,10,11,12,13,14,15,16,17,18,19,20,21,22,23,24,25,26,27] (by decide +kernel) (by decide +kernel) (by kernel_rfl) (by intro _ _ _ d _ h; cases d <;> exact h) _
        · intro A hA δ'
          simp only [pickOps_cons, pickOps_nil, pick1_zero, pick1_succ]
          repeat (go_big_quiet_step ((fail)))
          exact wpQuiet_nil hA.out.symm
        refine wpFlow_end (by decide +kernel) (by kernel_rfl) ?_
        intro δf
        go_wp2
        go_ret
        exact ⟨rfl, GY.out.trans (by repeat (first | with_reducible exact Grew.refl _ | with_reducible apply Grew.alloc | with_reducible apply Grew.grow | with_reducible apply Grew.drew | with_reducible apply Grew.drewN))⟩
      · have e2 := ieq_ne hne
        rw [hck] at CC
        clear hne hck
        go_enter Try.func7, Try.ntmps7
        go_wp2_with (first | (go_at_call 9; refine (awake_w _).mono ?_; rintro e w' ⟨rfl, δ, rfl⟩) | (go_at_call 22; refine (CA.out _ (by repeat (first | with_reducible exact Grew.refl _ | with_reducible apply Grew.alloc | with_reducible apply Grew.grow | with_reducible apply Grew.drew | with_reducible apply Grew.drewN))).mono ?_; rintro e w' ⟨rfl, δ1, rfl⟩) | (go_at_call 23; refine (CB.out _ (by repeat (first | with_reducible exact Grew.refl _ | with_reducible apply Grew.alloc | with_reducible apply Grew.grow | with_reducible apply Grew.drew | with_reducible apply Grew.drewN))).mono ?_; rintro e w' ⟨rfl, δ2, rfl⟩))
        refine code_abs ?_
        intro Y hY
        have gY : Grew w Y := by rw [hY]; exact (by repeat (first | with_reducible exact Grew.refl _ | with_reducible apply Grew.alloc | with_reducible apply Grew.grow | with_reducible apply Grew.drew | with_reducible apply Grew.drewN))
        have rY : Y.rowAt w.heap.size = iv r.l := by rw [hY]; simp [go_sem]
        have zY : w.heap.size < Y.heap.size := by rw [hY]; simp; omega
        have GY := Lib.hid gY
        have q2 := QL.out Y gY
        clear hY gY CA CB
        refine wp_region_flow (by kernel_rfl) ?_
        intro δf
        apply wpFlow_quiets [0,1,2,3,4,5,6,7,8,9,10,11,12,13,14,15,16,17] (by decide +kernel) (by decide +kernel) (by kernel_rfl) (by intro _ _ _ d _ h; cases d <;> exact h) _
        · intro A hA δ'
          simp only [pickOps_cons, pickOps_nil, pick1_zero, pick1_succ]
          repeat (go_big_quiet_step ((fail)))
          exact wpQuiet_nil hA.out.symm
        apply wpFlow_quiets [18] (by decide +kernel) (by decide +kernel) (by kernel_rfl) (by intro _ _ _ d _ h; cases d <;> exact h) _
        · intro A hA δ'
          simp only [pickOps_cons, pickOps_nil, pick1_zero, pick1_succ]
          repeat (go_big_quiet_step ((go_at_call 13; (with_reducible first | exact Calls.pure_of_g3 (CR.out _ (GY.out.trans (by repeat (first | with_reducible exact Grew.refl _ | with_reducible apply Grew.alloc | with_reducible apply Grew.grow | with_reducible apply Grew.drew | with_reducible apply Grew.drewN)))) | exact Calls.pure_of_g4 (CR.out _ (GY.out.trans (by repeat (first | with_reducible exact Grew.refl _ | with_reducible apply Grew.alloc | with_reducible apply Grew.grow | with_reducible apply Grew.drew | with_reducible apply Grew.drewN)))) | exact Calls.pure_of_g (CR.out _ (GY.out.trans (by repeat (first | with_reducible exact Grew.refl _ | with_reducible apply Grew.alloc | with_reducible apply Grew.grow | with_reducible apply Grew.drew | with_reducible apply Grew.drewN)))) | exact Calls.pure_of_g5 (CR.out _ (GY.out.trans (by repeat (first | with_reducible exact Grew.refl _ | with_reducible apply Grew.alloc | with_reducible apply Grew.grow | with_reducible apply Grew.drew | with_reducible apply Grew.drewN))))))))
          exact wpQuiet_nil hA.out.symm
        apply wpFlow_quiets [19,20,21,22,23] (by decide +kernel) (by decide +kernel) (by kernel_rfl) (by intro _ _ _ d _ h; cases d <;> exact h) _
        · intro A hA δ'
          simp only [pickOps_cons, pickOps_nil, pick1_zero, pick1_succ]
          repeat (go_big_quiet_step ((fail)))
          exact wpQuiet_nil hA.out.symm
        apply wpFlow_quiets [24] (by decide +kernel) (by decide +kernel) (by kernel_rfl) (by intro _ _ _ d _ h; cases d <;> exact h) _
        · intro A hA δ'
          simp only [pickOps_cons, pickOps_nil, pick1_zero, pick1_succ]
          repeat (go_big_quiet_step ((go_at_call 17; (with_reducible first | exact Calls.pure_of_g3 (CC.out _ (GY.out.trans (by repeat (first | with_reducible exact Grew.refl _ | with_reducible apply Grew.alloc | with_reducible apply Grew.grow | with_reducible apply Grew.drew | with_reducible apply Grew.drewN)))) | exact Calls.pure_of_g4 (CC.out _ (GY.out.trans (by repeat (first | with_reducible exact Grew.refl _ | with_reducible apply Grew.alloc | with_reducible apply Grew.grow | with_reducible apply Grew.drew | with_reducible apply Grew.drewN)))) | exact Calls.pure_of_g (CC.out _ (GY.out.trans (by repeat (first | with_reducible exact Grew.refl _ | with_reducible apply Grew.alloc | with_reducible apply Grew.grow | with_reducible apply Grew.drew | with_reducible apply Grew.drewN)))) | exact Calls.pure_of_g5 (CC.out _ (GY.out.trans (by repeat (first | with_reducible exact Grew.refl _ | with_reducible apply Grew.alloc | with_reducible apply Grew.grow | with_reducible apply Grew.drew | with_reducible apply Grew.drewN))))))))
          exact wpQuiet_nil hA.out.symm
        apply wpFlow_quiets [25,26,27] (by decide +kernel) (by decide +kernel) (by kernel_rfl) (by intro _ _ _ d _ h; cases d <;> exact h) _
        · intro A hA δ'
          simp only [pickOps_cons, pickOps_nil, pick1_zero, pick1_succ]
          repeat (go_big_quiet_step ((fail)))
          exact wpQuiet_nil hA.out.symm
        refine wpFlow_end (by decide +kernel) (by kernel_rfl) ?_
        intro δf
        go_wp2
        go_ret
        exact ⟨rfl, GY.out.trans (by repeat (first | with_reducible exact Grew.refl _ | with_reducible apply Grew.alloc | with_reducible apply Grew.grow | with_reducible apply Grew.drew | with_reducible apply Grew.drewN))⟩
end Go.Proofs.Ytleaemeihljlnaa
/- The walk of TreeApart. -/
namespace Go.Proofs.Ytleaemeihljlnaa
set_option linter.unusedVariables false
set_option linter.unusedSimpArgs false
open Go.RowKit
set_option maxRecDepth 100000 in
set_option maxHeartbeats 6400000 in
theorem treeApart_walk (q : Option Addr) (c : Nat) (l : List Idb) (hm : l.length ≤ maxLen) (q1 : Option Addr) (c1 : Nat) (l1 : List Idb) (hm1 : l1.length ≤ maxLen) (i : Int) (w : World)
    (hs : ShowsI w (.slice q l.length c) l) (hs1 : ShowsI w (.slice q1 l1.length c1) l1) :
    Calls Try.prog 8 #[.slice q l.length c, .slice q1 l1.length c1, .int .i64 i] w fun e w' => e = .returned (.bool true) ∧ Grew w w' := by
  have HS := Lib.hid hs
  have HS1 := Lib.hid hs1
  clear hs hm hs1 hm1
  obtain ⟨N, hN⟩ : ∃ N, l.length = N := ⟨_, rfl⟩
  have HN := Lib.hid hN
  obtain ⟨M, hM⟩ : ∃ N, l1.length = N := ⟨_, rfl⟩
  have HM := Lib.hid hM
  rw [hN] at HS ⊢
  rw [hM] at HS1 ⊢
  by_cases h4 : ¬ (¬ 32 < (N : Int) ∧ N = M ∧ ¬ i < 0 ∧ ¬ (N : Int) ≤ i)
  · have h5 : 32 < (N : Int) ∨ (¬ 32 < (N : Int) ∧ ¬ N = M) ∨ (¬ 32 < (N : Int) ∧ N = M ∧ i < 0) ∨ (¬ 32 < (N : Int) ∧ N = M ∧ ¬ i < 0 ∧ (N : Int) ≤ i) := by omega
    clear h4 hN hM HN HM HS HS1
    rcases h5 with h1 | ⟨h1, h2⟩ | ⟨h1, h2, h3⟩ | ⟨h1, h2, h3, h4⟩
    rotate_left 2
    all_goals try subst h2
    all_goals
      go_enter Try.func8, Try.ntmps8
      go_wp2_with (go_at_call 9; refine (awake_w _).mono ?_; rintro e w' ⟨rfl, δ, rfl⟩)
      go_ret
      exact ⟨rfl, (by repeat (first | with_reducible exact Grew.refl _ | with_reducible apply Grew.alloc | with_reducible apply Grew.grow | with_reducible apply Grew.drew | with_reducible apply Grew.drewN))⟩
  obtain ⟨h1, rfl, h2, h3⟩ : ¬ 32 < (N : Int) ∧ N = M ∧ ¬ i < 0 ∧ ¬ (N : Int) ≤ i := by omega
  clear h4
  obtain ⟨j, rfl⟩ : ∃ j : Nat, i = (j : Int) := ⟨i.toNat, by omega⟩
  obtain ⟨x, hx⟩ : ∃ x, l[j]? = some x := ⟨_, List.getElem?_eq_getElem (by omega)⟩
  obtain ⟨y, hy⟩ : ∃ x, l1[j]? = some x := ⟨_, List.getElem?_eq_getElem (by omega)⟩
  have hxl := x.len
  have hyl := y.len
  have hok : pathOk l j = true := decide_eq_true (by omega)
  have hof : pathOf l j = path l j := by unfold pathOf; rw [if_pos hok]; rfl
  have CP := Lib.hid (fun W (g : Grew w W) => path_w l j (.slice q N c) W (HS.out.grew g))
  rw [hok, hof] at CP
  have CR := Lib.hid (roots_of l _ w (by omega) HS.out)
  have CS := Lib.hid (roots_of l1 _ w (by omega) HS1.out)
  have hs := HS.out
  rw [← hN] at hs
  obtain ⟨b, o, rfl, _, hcc, hb, hat⟩ := showsI_some hs (by omega)
  have hs1 := HS1.out
  rw [← hM] at hs1
  obtain ⟨b1, o1, rfl, _, hcc1, hb1, hat1⟩ := showsI_some hs1 (by omega)
  have QL := Lib.hid (fun W (g : Grew w W) δ => load_idg (World.rangeAt.grew (hat j x hx) g) δ)
  have QL1 := Lib.hid (fun W (g : Grew w W) δ => load_idg (World.rangeAt.grew (hat1 j y hy) g) δ)
  have QM := Lib.hid (fun W (g : Grew w W) => load_idm (World.rangeAt.grew (hat j x hx) g))
  have hrl := (root l).len
  have hrl1 := (root l1).len
  have hjI : (j : Int) < (N : Int) := by omega
  by_cases hroot : root l = root l1
  rotate_left
  · have e1 := ieq_ne hroot
    clear hN hM HN HM HS HS1 hok hof hs hs1 hcc hcc1 hat hat1 hx hy hroot QM
    obtain ⟨R, hR⟩ : ∃ R, root l = R := ⟨_, rfl⟩
    obtain ⟨R1, hR1⟩ : ∃ R, root l1 = R := ⟨_, rfl⟩
    rw [hR] at CR e1 hrl
    rw [hR1] at CS e1 hrl1
    clear hR hR1
    go_enter Try.func8, Try.ntmps8
    go_wp2_with (first | (go_at_call 9; refine (awake_w _).mono ?_; rintro e w' ⟨rfl, δ, rfl⟩) | (go_at_call 10; refine stop_of ?_))
    unfold Stop
    refine (CP.out _ (by repeat (first | with_reducible exact Grew.refl _ | with_reducible apply Grew.alloc | with_reducible apply Grew.grow | with_reducible apply Grew.drew | with_reducible apply Grew.drewN))).mono ?_
    rintro e W1 ⟨v1, rfl, ho, hg⟩
    have G1 := Lib.hid ((show Grew w _ from (by repeat (first | with_reducible exact Grew.refl _ | with_reducible apply Grew.alloc | with_reducible apply Grew.grow | with_reducible apply Grew.drew | with_reducible apply Grew.drewN))).trans hg)
    have q1 := QL.out W1 G1.out
    have q2 := QL1.out W1 G1.out
    clear ho hg CP
    go_wp2
    refine wp_region_flow (by kernel_rfl) ?_
    intro δf
    apply wpFlow_quiets [0,1,2,3] (by decide +kernel) (by decide +kernel) (by kernel_rfl) (by intro _ _ _ d _ h; cases d <;> exact h) _
    · intro A hA δ'
      simp only [pickOps_cons, pickOps_nil, pick1_zero, pick1_succ]
      repeat (go_big_quiet_step ((fail)))
      exact wpQuiet_nil hA.out.symm
    apply wpFlow_quiets [4] (by decide +kernel) (by decide +kernel) (by kernel_rfl) (by intro _ _ _ d _ h; cases d <;> exact h) _
    · intro A hA δ'
      simp only [pickOps_cons, pickOps_nil, pick1_zero, pick1_succ]
      repeat (go_big_quiet_step ((go_at_call 13; (with_reducible first | exact Calls.pure_of_g3 (CR.out _ (G1.out.trans (by repeat (first | with_reducible exact Grew.refl _ | with_reducible apply Grew.alloc | with_reducible apply Grew.grow | with_reducible apply Grew.drew | with_reducible apply Grew.drewN)))) | exact Calls.pure_of_g4 (CR.out _ (G1.out.trans (by repeat (first | with_reducible exact Grew.refl _ | with_reducible apply Grew.alloc | with_reducible apply Grew.grow | with_reducible apply Grew.drew | with_reducible apply Grew.drewN)))) | exact Calls.pure_of_g (CR.out _ (G1.out.trans (by repeat (first | with_reducible exact Grew.refl _ | with_reducible apply Grew.alloc | with_reducible apply Grew.grow | with_reducible apply Grew.drew | with_reducible apply Grew.drewN)))) | exact Calls.pure_of_g5 (CR.out _ (G1.out.trans (by repeat (first | with_reducible exact Grew.refl _ | with_reducible apply Grew.alloc | with_reducible apply Grew.grow | with_reducible apply Grew.drew | with_reducible apply Grew.drewN))))))))
      exact wpQuiet_nil hA.out.symm
    apply wpFlow_quiets [5] (by decide +kernel) (by decide +kernel) (by kernel_rfl) (by intro _ _ _ d _ h; cases d <;> exact h) _
    · intro A hA δ'
      simp only [pickOps_cons, pickOps_nil, pick1_zero, pick1_succ]
      repeat (go_big_quiet_step ((fail)))
      exact wpQuiet_nil hA.out.symm
    apply wpFlow_quiets [6] (by decide +kernel) (by decide +kernel) (by kernel_rfl) (by intro _ _ _ d _ h; cases d <;> exact h) _
    · intro A hA δ'
      simp only [pickOps_cons, pickOps_nil, pick1_zero, pick1_succ]
      repeat (go_big_quiet_step ((go_at_call 13; (with_reducible first | exact Calls.pure_of_g3 (CS.out _ (G1.out.trans (by repeat (first | with_reducible exact Grew.refl _ | with_reducible apply Grew.alloc | with_reducible apply Grew.grow | with_reducible apply Grew.drew | with_reducible apply Grew.drewN)))) | exact Calls.pure_of_g4 (CS.out _ (G1.out.trans (by repeat (first | with_reducible exact Grew.refl _ | with_reducible apply Grew.alloc | with_reducible apply Grew.grow | with_reducible apply Grew.drew | with_reducible apply Grew.drewN)))) | exact Calls.pure_of_g (CS.out _ (G1.out.trans (by repeat (first | with_reducible exact Grew.refl _ | with_reducible apply Grew.alloc | with_reducible apply Grew.grow | with_reducible apply Grew.drew | with_reducible apply Grew.drewN)))) | exact Calls.pure_of_g5 (CS.out _ (G1.out.trans (by repeat (first | with_reducible exact Grew.refl _ | with_reducible apply Grew.alloc | with_reducible apply Grew.grow | with_reducible apply Grew.drew | with_reducible apply Grew.drewN))))))))
      exact wpQuiet_nil hA.out.symm
    apply wpFlow_quiets [7,8,9,10,11,12,13,14,15,16,17,18,19] (by decide +kernel) (by decide +kernel) (by kernel_rfl) (by intro _ _ _ d _ h; cases d <;> exact h) _
    · intro A hA δ'
      simp only [pickOps_cons, pickOps_nil, pick1_zero, pick1_succ]
      repeat (go_big_quiet_step ((fail)))
      exact wpQuiet_nil hA.out.symm
    refine wpFlow_end (by decide +kernel) (by kernel_rfl) ?_
    intro δf
    go_wp2
    go_ret
    exact ⟨rfl, G1.out.trans (by repeat (first | with_reducible exact Grew.refl _ | with_reducible apply Grew.alloc | with_reducible apply Grew.grow | with_reducible apply Grew.drew | with_reducible apply Grew.drewN))⟩
  · have e1 : ieq (root l).l (root l1).l = true := decide_eq_true (by rw [hroot])
    by_cases hxy : x = y
    · have e2 : ieq x.l y.l = true := decide_eq_true (by rw [hxy])
      clear hN hM HN HM HS HS1 hok hof hs hs1 hcc hcc1 hat hat1 hx hy QM hxy
      obtain ⟨R, hR⟩ : ∃ R, root l = R := ⟨_, rfl⟩
      obtain ⟨R1, hR1⟩ : ∃ R, root l1 = R := ⟨_, rfl⟩
      rw [hR] at CR e1 hrl hroot
      rw [hR1] at CS e1 hrl1 hroot
      clear hR hR1 hroot
      go_enter Try.func8, Try.ntmps8
      go_wp2_with (first | (go_at_call 9; refine (awake_w _).mono ?_; rintro e w' ⟨rfl, δ, rfl⟩) | (go_at_call 10; refine stop_of ?_))
      unfold Stop
      refine (CP.out _ (by repeat (first | with_reducible exact Grew.refl _ | with_reducible apply Grew.alloc | with_reducible apply Grew.grow | with_reducible apply Grew.drew | with_reducible apply Grew.drewN))).mono ?_
      rintro e W1 ⟨v1, rfl, ho, hg⟩
      have G1 := Lib.hid ((show Grew w _ from (by repeat (first | with_reducible exact Grew.refl _ | with_reducible apply Grew.alloc | with_reducible apply Grew.grow | with_reducible apply Grew.drew | with_reducible apply Grew.drewN))).trans hg)
      have q1 := QL.out W1 G1.out
      have q2 := QL1.out W1 G1.out
      clear ho hg CP
      go_wp2
      refine wp_region_flow (by kernel_rfl) ?_
      intro δf
      apply wpFlow_quiets [0,1,2,3] (by decide +kernel) (by decide +kernel) (by kernel_rfl) (by intro _ _ _ d _ h; cases d <;> exact h) _
      · intro A hA δ'
        simp only [pickOps_cons, pickOps_nil, pick1_zero, pick1_succ]
        repeat (go_big_quiet_step ((fail)))
        exact wpQuiet_nil hA.out.symm
      apply wpFlow_quiets [4] (by decide +kernel) (by decide +kernel) (by kernel_rfl) (by intro _ _ _ d _ h; cases d <;> exact h) _
      · intro A hA δ'
        simp only [pickOps_cons, pickOps_nil, pick1_zero, pick1_succ]
        repeat (go_big_quiet_step ((go_at_call 13; (with_reducible first | exact Calls.pure_of_g3 (CR.out _ (G1.out.trans (by repeat (first | with_reducible exact Grew.refl _ | with_reducible apply Grew.alloc | with_reducible apply Grew.grow | with_reducible apply Grew.drew | with_reducible apply Grew.drewN)))) | exact Calls.pure_of_g4 (CR.out _ (G1.out.trans (by repeat (first | with_reducible exact Grew.refl _ | with_reducible apply Grew.alloc | with_reducible apply Grew.grow | with_reducible apply Grew.drew | with_reducible apply Grew.drewN)))) | exact Calls.pure_of_g (CR.out _ (G1.out.trans (by repeat (first | with_reducible exact Grew.refl _ | with_reducible apply Grew.alloc | with_reducible apply Grew.grow | with_reducible apply Grew.drew | with_reducible apply Grew.drewN)))) | exact Calls.pure_of_g5 (CR.out _ (G1.out.trans (by repeat (first | with_reducible exact Grew.refl _ | with_reducible apply Grew.alloc | with_reducible apply Grew.grow | with_reducible apply Grew.drew | with_reducible apply Grew.drewN))))))))
        exact wpQuiet_nil hA.out.symm
      apply wpFlow_quiets [5] (by decide +kernel) (by decide +kernel) (by kernel_rfl) (by intro _ _ _ d _ h; cases d <;> exact h) _
      · intro A hA δ'
        simp only [pickOps_cons, pickOps_nil, pick1_zero, pick1_succ]
        repeat (go_big_quiet_step ((fail)))
        exact wpQuiet_nil hA.out.symm
      apply wpFlow_quiets [6] (by decide +kernel) (by decide +kernel) (by kernel_rfl) (by intro _ _ _ d _ h; cases d <;> exact h) _
      · intro A hA δ'
        simp only [pickOps_cons, pickOps_nil, pick1_zero, pick1_succ]
        repeat (go_big_quiet_step ((go_at_call 13; (with_reducible first | exact Calls.pure_of_g3 (CS.out _ (G1.out.trans (by repeat (first | with_reducible exact Grew.refl _ | with_reducible apply Grew.alloc | with_reducible apply Grew.grow | with_reducible apply Grew.drew | with_reducible apply Grew.drewN)))) | exact Calls.pure_of_g4 (CS.out _ (G1.out.trans (by repeat (first | with_reducible exact Grew.refl _ | with_reducible apply Grew.alloc | with_reducible apply Grew.grow | with_reducible apply Grew.drew | with_reducible apply Grew.drewN)))) | exact Calls.pure_of_g (CS.out _ (G1.out.trans (by repeat (first | with_reducible exact Grew.refl _ | with_reducible apply Grew.alloc | with_reducible apply Grew.grow | with_reducible apply Grew.drew | with_reducible apply Grew.drewN)))) | exact Calls.pure_of_g5 (CS.out _ (G1.out.trans (by repeat (first | with_reducible exact Grew.refl _ | with_reducible apply Grew.alloc | with_reducible apply Grew.grow | with_reducible apply Grew.drew | with_reducible apply Grew.drewN))))))))
        exact wpQuiet_nil hA.out.symm
      apply wpFlow_quiets [7,8,9,10,11,12,13,14,15,16,17,18,19] (by decide +kernel) (by decide +kernel) (by kernel_rfl) (by intro _ _ _ d _ h; cases d <;> exact h) _
      · intro A hA δ'
        simp only [pickOps_cons, pickOps_nil, pick1_zero, pick1_succ]
        repeat (go_big_quiet_step ((fail)))
        exact wpQuiet_nil hA.out.symm
      refine wpFlow_end (by decide +kernel) (by kernel_rfl) ?_
      intro δf
      go_wp2
      go_ret
      exact ⟨rfl, G1.out.trans (by repeat (first | with_reducible exact Grew.refl _ | with_reducible apply Grew.alloc | with_reducible apply Grew.grow | with_reducible apply Grew.drew | with_reducible apply Grew.drewN))⟩
    · have e2 := ieq_ne hxy
      have hck := chk_path l j x (by omega) hx
      rw [hN, hroot] at hck
      have hc : ClashAt l1 (j : Int) x (path l j) j y := ⟨rfl, by omega, hy, hxy, by rw [hM]; exact hck⟩
      obtain ⟨K, p, q', hmt, hlen, hp, hq, hne, hno⟩ := clash_tell hc
      have CA := Lib.hid (fun W v (g : Grew w W) (gv : ShowsI W v (path l j)) => clash_yes l1 j x (path l j) j y K hc hmt hlen p q' hp hq (.slice (some ⟨b1, o1, none⟩) N c1) v W (HS1.out.grew g) gv)
      have e3 : ((bstr (txt p)).toList == (bstr (txt q')).toList) = false := by rw [eq_bstr _ _ (txt_lt p) (txt_lt q')]; exact decide_eq_false hne
      have K1 : Hid (∀ W v, Shows W v (bys (txt p)) → Calls Try.prog 21 #[v] W fun e w' => e = .returned (.agg (iv (p.1.node p.2).l)) ∧ Grew W w') := Lib.hid (fun W v g => sum_w (txt p) v W (by unfold txt; rw [text_len]; decide) (txt_lt p) g)
      have K2 : Hid (∀ W v, Shows W v (bys (txt q')) → Calls Try.prog 21 #[v] W fun e w' => e = .returned (.agg (iv (q'.1.node q'.2).l)) ∧ Grew W w') := Lib.hid (fun W v g => sum_w (txt q') v W (by unfold txt; rw [text_len]; decide) (txt_lt q') g)
      have n1 := (p.1.node p.2).len
      have n2 := (q'.1.node q'.2).len
      obtain ⟨A, hA⟩ : ∃ A, p.1.node p.2 = A := ⟨_, rfl⟩
      obtain ⟨B, hB⟩ : ∃ A, q'.1.node q'.2 = A := ⟨_, rfl⟩
      rw [hA] at K1 n1 hno
      rw [hB] at K2 n2 hno
      obtain ⟨P, hP⟩ : ∃ A, txt p = A := ⟨_, rfl⟩
      obtain ⟨Q, hQ⟩ : ∃ A, txt q' = A := ⟨_, rfl⟩
      rw [hP] at CA e3 K1
      rw [hQ] at CA e3 K2
      obtain ⟨R, hR⟩ : ∃ R, root l = R := ⟨_, rfl⟩
      obtain ⟨R1, hR1⟩ : ∃ R, root l1 = R := ⟨_, rfl⟩
      rw [hR] at CR e1 hrl
      rw [hR1] at CS e1 hrl1
      obtain ⟨ps, hps⟩ : ∃ ps, path l j = ps := ⟨_, rfl⟩
      rw [hps] at CP CA
      clear hA hB hP hQ hc hmt hlen hp hq hne hN hM HS HS1 HN HM hR hR1 hroot hxy hok hof hs hs1 hcc hcc1 hat hat1 hx hy hck hps
      go_enter Try.func8, Try.ntmps8
      go_wp2_with (first | (go_at_call 9; refine (awake_w _).mono ?_; rintro e w' ⟨rfl, δ, rfl⟩) | (go_at_call 10; refine stop_of ?_))
      unfold Stop
      refine (CP.out _ (by repeat (first | with_reducible exact Grew.refl _ | with_reducible apply Grew.alloc | with_reducible apply Grew.grow | with_reducible apply Grew.drew | with_reducible apply Grew.drewN))).mono ?_
      rintro e W1 ⟨v1, rfl, ho, hg⟩
      have G1 := Lib.hid ((show Grew w _ from (by repeat (first | with_reducible exact Grew.refl _ | with_reducible apply Grew.alloc | with_reducible apply Grew.grow | with_reducible apply Grew.drew | with_reducible apply Grew.drewN))).trans hg)
      have q1 := QL.out W1 G1.out
      have q2 := QL1.out W1 G1.out
      have PS := Lib.hid (ho.shows Idb.cs_len)
      clear ho hg CP
      go_wp2
      refine wp_region_flow (by kernel_rfl) ?_
      intro δf
      apply wpFlow_quiets [0,1,2,3] (by decide +kernel) (by decide +kernel) (by kernel_rfl) (by intro _ _ _ d _ h; cases d <;> exact h) _
      · intro A hA δ'
        simp only [pickOps_cons, pickOps_nil, pick1_zero, pick1_succ]
        repeat (go_big_quiet_step ((fail)))
        exact wpQuiet_nil hA.out.symm
      apply wpFlow_quiets [4] (by decide +kernel) (by decide +kernel) (by kernel_rfl) (by intro _ _ _ d _ h; cases d <;> exact h) _
      · intro A hA δ'
        simp only [pickOps_cons, pickOps_nil, pick1_zero, pick1_succ]
        repeat (go_big_quiet_step ((go_at_call 13; (with_reducible first | exact Calls.pure_of_g3 (CR.out _ (G1.out.trans (by repeat (first | with_reducible exact Grew.refl _ | with_reducible apply Grew.alloc | with_reducible apply Grew.grow | with_reducible apply Grew.drew | with_reducible apply Grew.drewN)))) | exact Calls.pure_of_g4 (CR.out _ (G1.out.trans (by repeat (first | with_reducible exact Grew.refl _ | with_reducible apply Grew.alloc | with_reducible apply Grew.grow | with_reducible apply Grew.drew | with_reducible apply Grew.drewN)))) | exact Calls.pure_of_g (CR.out _ (G1.out.trans (by repeat (first | with_reducible exact Grew.refl _ | with_reducible apply Grew.alloc | with_reducible apply Grew.grow | with_reducible apply Grew.drew | with_reducible apply Grew.drewN)))) | exact Calls.pure_of_g5 (CR.out _ (G1.out.trans (by repeat (first | with_reducible exact Grew.refl _ | with_reducible apply Grew.alloc | with_reducible apply Grew.grow | with_reducible apply Grew.drew | with_reducible apply Grew.drewN))))))))
        exact wpQuiet_nil hA.out.symm
      apply wpFlow_quiets [5] (by decide +kernel) (by decide +kernel) (by kernel_rfl) (by intro _ _ _ d _ h; cases d <;> exact h) _
      · intro A hA δ'
        simp only [pickOps_cons, pickOps_nil, pick1_zero, pick1_succ]
        repeat (go_big_quiet_step ((fail)))
        exact wpQuiet_nil hA.out.symm
      apply wpFlow_quiets [6] (by decide +kernel) (by decide +kernel) (by kernel_rfl) (by intro _ _ _ d _ h; cases d <;> exact h) _
      · intro A hA δ'
        simp only [pickOps_cons, pickOps_nil, pick1_zero, pick1_succ]
        repeat (go_big_quiet_step ((go_at_call 13; (with_reducible first | exact Calls.pure_of_g3 (CS.out _ (G1.out.trans (by repeat (first | with_reducible exact Grew.refl _ | with_reducible apply Grew.alloc | with_reducible apply Grew.grow | with_reducible apply Grew.drew | with_reducible apply Grew.drewN)))) | exact Calls.pure_of_g4 (CS.out _ (G1.out.trans (by repeat (first | with_reducible exact Grew.refl _ | with_reducible apply Grew.alloc | with_reducible apply Grew.grow | with_reducible apply Grew.drew | with_reducible apply Grew.drewN)))) | exact Calls.pure_of_g (CS.out _ (G1.out.trans (by repeat (first | with_reducible exact Grew.refl _ | with_reducible apply Grew.alloc | with_reducible apply Grew.grow | with_reducible apply Grew.drew | with_reducible apply Grew.drewN)))) | exact Calls.pure_of_g5 (CS.out _ (G1.out.trans (by repeat (first | with_reducible exact Grew.refl _ | with_reducible apply Grew.alloc | with_reducible apply Grew.grow | with_reducible apply Grew.drew | with_reducible apply Grew.drewN))))))))
        exact wpQuiet_nil hA.out.symm
      apply wpFlow_quiets [7,8,9,10,11,12,13,14,15,16,17,18,19] (by decide +kernel) (by decide +kernel) (by kernel_rfl) (by intro _ _ _ d _ h; cases d <;> exact h) _
      · intro A hA δ'
        simp only [pickOps_cons, pickOps_nil, pick1_zero, pick1_succ]
        repeat (go_big_quiet_step ((fail)))
        exact wpQuiet_nil hA.out.symm
      refine wpFlow_end (by decide +kernel) (by kernel_rfl) ?_
      intro δf
      go_wp2_with (go_at_call 22; refine stop_of ?_)
      unfold Stop
      refine Calls_abs ?_
      intro X hX
      have gX : Grew W1 X := by rw [hX]; exact (by repeat (first | with_reducible exact Grew.refl _ | with_reducible apply Grew.alloc | with_reducible apply Grew.grow | with_reducible apply Grew.drew | with_reducible apply Grew.drewN))
      refine (CA.out _ v1 (G1.out.trans gX) (PS.out.grew gX)).mono ?_
      rintro e W2 ⟨va, vb, rfl, sa, sb, hg⟩
      have G2 := Lib.hid ((G1.out.trans gX).trans hg)
      have SA := Lib.hid sa
      have SB := Lib.hid sb
      have t1 := shows_string sa
      have t2 := shows_string sb
      clear hX gX hg sa sb CA G1 q1 q2 PS QL QL1 QM
      go_wp2_with (go_at_call 21; refine stop_of ?_)
      unfold Stop
      refine (K1.out _ va SA.out).mono ?_
      rintro e w' ⟨rfl, δ1, rfl⟩
      go_wp2_with (go_at_call 21; refine stop_of ?_)
      unfold Stop
      refine (K2.out _ vb (SB.out.grew (by repeat (first | with_reducible exact Grew.refl _ | with_reducible apply Grew.alloc | with_reducible apply Grew.grow | with_reducible apply Grew.drew | with_reducible apply Grew.drewN)))).mono ?_
      rintro e w' ⟨rfl, δ2, rfl⟩
      go_wp2
      go_ret
      exact ⟨rfl, G2.out.trans (by repeat (first | with_reducible exact Grew.refl _ | with_reducible apply Grew.alloc | with_reducible apply Grew.grow | with_reducible apply Grew.drew | with_reducible apply Grew.drewN))⟩
end Go.Proofs.Ytleaemeihljlnaa
namespace Go.Proofs.Ytleaemeihljlnaa.treeApart
set_option linter.unusedVariables false
set_option linter.unusedSimpArgs false
open Go.ChangeShapes Go.WideShapes Go.ChangeAt Go.RowKit

set_option maxRecDepth 100000 in
theorem lifted (os : Os) (started : os.Started) (H : Type) (enc : TypeId × Value → H) :
    ReturnsInHanded {} Try.checked os 8 .any (Rows.treeApartSpec.pre6 enc Try.prog Try.f8 Rows.treeApartRow.domain false) (Rows.treeApartSpec.post enc Try.prog Try.f8 false true false false) := by
  refine returnsInHanded_of_change (C := Try.checked) own started (by kernel_rfl) Try.func8
    (ChangeSpec.witness6 (enc := enc) (C := Try.checked) false ⟨#[], #[.slice none 0 0, .slice none 0 0, .int .i64 0], []⟩ 8 (by kernel_rfl) (by kernel_rfl) (by kernel_rfl) (by kernel_rfl)) ?_
  intro W base args ds gs before hval0 hW _ _
  have hval : ∀ (j : Nat) t v, Try.f8.params[j]? = some t → args[j]? = some v → Value.okWide Try.prog W .any base t v := hval0
  have hW' := hW
  obtain ⟨p, q, hA0, hV, rfl, hfz, hnd⟩ := hW
  have hA : DataW.TrodAll enc Try.prog W 0 (fun _ => true) true Try.f8.params.toList args.toList ds p := hA0
  have hAk := hA
  rw [Try.params8] at hA hval
  obtain ⟨v0, vs0, d0, ds0, p0, q0, hargs0, rfl, rfl, h0, r0⟩ := trodAll_cons hA
  obtain ⟨v1, vs1, d1, ds1, p1, q1, hargs1, rfl, rfl, h1, r1⟩ := trodAll_cons r0
  obtain ⟨v2, vs2, d2, ds2, p2, q2, hargs2, rfl, rfl, h2, r2⟩ := trodAll_cons r1
  obtain ⟨rfl, rfl, rfl⟩ := trodAll_nil r2
  subst hargs2
  subst hargs1
  obtain rfl : args = #[v0, v1, v2] := by cases args; simp_all
  obtain ⟨rfl, rfl⟩ := trodVars_none hV
  obtain ⟨q0', n0', c0', rfl⟩ := okWide_slice Try.underlying22 (hval 0 22 v0 rfl rfl)
  obtain ⟨aq0, ac0, al0, ae0, am0, as0⟩ := open_ids h0 rfl
  rw [ae0]
  obtain ⟨q1', n1', c1', rfl⟩ := okWide_slice Try.underlying22 (hval 1 22 v1 rfl rfl)
  obtain ⟨aq1, ac1, al1, ae1, am1, as1⟩ := open_ids h1 rfl
  rw [ae1]
  obtain ⟨a2, rfl, rfl, _, w2⟩ := open_int Try.underlying3 (hval 2 3 v2 rfl rfl) h2
  simp only [List.append_nil] at hW'
  refine (treeApart_walk aq0 ac0 al0 am0 aq1 ac1 al1 am1 a2 W as0 as1).mono fun e W' ⟨he, hg⟩ => ?_
  subst he
  rw [← ae0]
  rw [← ae1]
  exact ⟨_, rfl, post_of_stays hW' rfl (by simpa using hAk) (types_ok _ (by rw [Try.params8]; kernel_rfl)) rfl rfl (fun _ _ _ => (trodAll_cons_mk (shut_bool Try.underlying4 _) trodAll_mk0))
    hg (ok_one (by kernel_rfl) rfl (okWide_bool_mk Try.underlying4 _))⟩

theorem proved : Rows.TreeApartSaid :=
  OpenClaim.holds_of_wide 8 Try.f8 rfl rfl rfl rfl rfl rfl rfl ⟨rfl, rfl, rfl, rfl, rfl⟩ rfl rfl rfl rfl rfl (by kernel_rfl) Try.func8 (by kernel_rfl)
    (of_decide_eq_true (by kernel_rfl)) (by unfold Func.isWrapper; first | (rw [if_pos (by decide +kernel)]; kernel_rfl) | (rw [if_neg (by decide +kernel)]; exact ⟨rfl, rfl⟩))
    (fun os started H enc _ => lifted os started H enc)
end Go.Proofs.Ytleaemeihljlnaa.treeApart
