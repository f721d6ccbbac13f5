/- What the statements of this chapter rest on, part 4. Conditions: none. -/
import Derived.OwnWalk
import Derived.Lib.SliceRun
import Derived.WalkKit
import Derived.Laws.Bits64b
import Derived.Test.YtinkdkcmmjfhoaaRows
import Derived.Laws.CopyRow
import Derived.Laws.MakeOwn
import Derived.Laws.BytesString
import Derived.Test.YtinkdkcmmjfhoaaM3
/- tree's Path: the closure that walks. -/
namespace Go.Proofs.Ytinkdkcmmjfhoaa
set_option linter.unusedVariables false
set_option linter.unusedSimpArgs false
open Go.RowKit
/-- What leads to the root from a leaf. -/
def pathF : Nat → List Idb → Nat → List Idb
  | 0, _, _ => []
  | f + 1, ls, i => if ls.length ≤ 1 then [] else if i < halfN ls.length then pathF f (ls.take (halfN ls.length)) i ++ [root (ls.drop (halfN ls.length))] else pathF f (ls.drop (halfN ls.length)) (i - halfN ls.length) ++ [root (ls.take (halfN ls.length))]
def path (ls : List Idb) (i : Nat) : List Idb := pathF ls.length ls i
theorem pathF_more : ∀ (f g : Nat) (ls : List Idb) (i : Nat), ls.length ≤ 1099511627776 → ls.length ≤ f → ls.length ≤ g → pathF f ls i = pathF g ls i
  | 0, 0, _, _, _, _, _ => rfl
  | 0, g + 1, ls, i, _, h, _ => by
    obtain rfl : ls = [] := List.length_eq_zero_iff.1 (by omega)
    simp [pathF]
  | f + 1, 0, ls, i, _, _, h => by
    obtain rfl : ls = [] := List.length_eq_zero_iff.1 (by omega)
    simp [pathF]
  | f + 1, g + 1, ls, i, hb, h1, h2 => by
    unfold pathF
    by_cases h : ls.length ≤ 1
    · rw [if_pos h, if_pos h]
    · rw [if_neg h, if_neg h]
      have hs := half_sand ls.length (by omega) hb
      have hp := half_pos ls.length
      rw [pathF_more f g (ls.take (halfN ls.length)) i (by rw [List.length_take]; omega) (by rw [List.length_take]; omega) (by rw [List.length_take]; omega),
        pathF_more f g (ls.drop (halfN ls.length)) _ (by rw [List.length_drop]; omega) (by rw [List.length_drop]; omega) (by rw [List.length_drop]; omega)]
theorem path_one (ls : List Idb) (i : Nat) (h : ls.length ≤ 1) : path ls i = [] := by
  unfold path
  obtain ⟨f, hf⟩ | h0 : (∃ f, ls.length = f + 1) ∨ ls.length = 0 := by
    rcases Nat.eq_zero_or_pos ls.length with h0 | h0
    · exact .inr h0
    · exact .inl ⟨ls.length - 1, by omega⟩
  · rw [hf, pathF, if_pos h]
  · rw [h0]; rfl
theorem path_left (ls : List Idb) (i : Nat) (h : 2 ≤ ls.length) (hb : ls.length ≤ 1099511627776) (hi : i < halfN ls.length) : path ls i = path (ls.take (halfN ls.length)) i ++ [root (ls.drop (halfN ls.length))] := by
  have hs := half_sand ls.length h hb
  have hp := half_pos ls.length
  obtain ⟨f, hf⟩ : ∃ f, ls.length = f + 1 := ⟨ls.length - 1, by omega⟩
  have e : path ls i = pathF (f + 1) ls i := by unfold path; rw [hf]
  rw [e, pathF, if_neg (by omega), if_pos hi]
  unfold path
  rw [pathF_more f _ (ls.take (halfN ls.length)) i (by rw [List.length_take]; omega) (by rw [List.length_take]; omega) (Nat.le_refl _)]
theorem path_right (ls : List Idb) (i : Nat) (h : 2 ≤ ls.length) (hb : ls.length ≤ 1099511627776) (hi : ¬ i < halfN ls.length) : path ls i = path (ls.drop (halfN ls.length)) (i - halfN ls.length) ++ [root (ls.take (halfN ls.length))] := by
  have hs := half_sand ls.length h hb
  have hp := half_pos ls.length
  obtain ⟨f, hf⟩ : ∃ f, ls.length = f + 1 := ⟨ls.length - 1, by omega⟩
  have e : path ls i = pathF (f + 1) ls i := by unfold path; rw [hf]
  rw [e, pathF, if_neg (by omega), if_neg hi]
  unfold path
  rw [pathF_more f _ (ls.drop (halfN ls.length)) _ (by rw [List.length_drop]; omega) (by rw [List.length_drop]; omega) (Nat.le_refl _)]
theorem pathF_len : ∀ (f : Nat) (ls : List Idb) (i : Nat), ls.length ≤ 1099511627776 → (pathF f ls i).length = (down f ls.length i).length
  | 0, _, _, _ => rfl
  | f + 1, ls, i, hb => by
    unfold pathF down
    by_cases h : ls.length ≤ 1
    · rw [if_pos h, if_pos h]; rfl
    · have hs := half_sand ls.length (by omega) hb
      rw [if_neg h, if_neg h]
      split
      · rw [List.length_append, pathF_len f _ _ (by rw [List.length_take]; omega), List.length_take, Nat.min_eq_left (by omega)]; rfl
      · rw [List.length_append, pathF_len f _ _ (by rw [List.length_drop]; omega), List.length_drop]; rfl
theorem path_len (ls : List Idb) (i : Nat) (hb : ls.length ≤ 1099511627776) : (path ls i).length = (side ls.length i).length := pathF_len _ ls i hb
theorem cs_one (x : Idb) : ∀ u ∈ x.cs, u.oneCell' = true := bys_one _
def callVal (f : Value) (args : Array Value) : Sem Next := do let d ← Deferred.ofValue f args; invoke d.target d.args
section
variable (ρ : Operand → Value) (d : Option Tmp) (y z : Operand) (n : Nat) (A : Array TypeId) (t : TypeId) (p : String) (a : Array Edge) (g : Option (Nat × Bool))
@[go_sem ↓] theorem ex_callVal : execOp ρ ⟨d, .call { callee := .value (.tmp n), args := #[y, z], argTypes := A }, t, p, a, g⟩ = callVal (ρ (.tmp n)) #[ρ y, ρ z] := by simp [execOp, callVal, resolve]
end
@[go_sem] theorem run_callVal (c1 c2 x y : Value) (w : World) : (callVal (.func (.func 49) #[] #[c1, c2]) #[x, y]).run Try.prog w = .ok (.enter 49 #[x, y, c1, c2]) w := by kernel_rfl
/-- The closure's value. -/
def walkFn (gw go : Nat) : Value := .func (.func 49) #[] #[.pointer (some ⟨gw, 0, none⟩), .pointer (some ⟨go, 0, none⟩)]
theorem setCell_row1 {w : World} {g : Nat} {v0 v : Value} (rf : w.rowFree g = true) (rr : w.rowAt g = #[v0]) : w.setCell ⟨g, 0, none⟩ v = w.setRow g #[v] := by
  have h2 := setCell_setRow_free w g (w.rowAt g) rf 0 v
  rw [setRow_same' _ _ rf, rr] at h2
  exact h2
theorem wpList_abs {P : Program} {ops : Array Oper} {Q : Exit → Act → World → Prop} {l : List Oper} {a : Act} {X : World} (h : ∀ Y, Y = X → wpList P ops Q l a Y) : wpList P ops Q l a X := h X rfl
set_option maxRecDepth 100000 in
set_option maxHeartbeats 6400000 in
theorem walk_w (w0 A : World) (gw go : Nat) (hA : Grew w0 A) (hgo : w0.heap.size ≤ go) (hgo2 : go < A.heap.size) (hgw : gw < A.heap.size) (hne : go ≠ gw) (hfA : A.rowFree go = true) (hcell : A.cell? ⟨gw, 0, none⟩ = some (walkFn gw go)) :
    ∀ (f : Nat) (ls : List Idb) (i : Nat) (v : Value) (W : World) (ov : Value) (d : List Idb), ls.length ≤ f → 1 ≤ ls.length → ls.length ≤ 1000 → i < ls.length → d.length + ls.length ≤ 10000 → ShowsI w0 v ls → Grew (A.setRow go #[ov]) W → OwnE 32 Idb.cs W A.heap.size 24 ov d →
      Calls Try.prog 49 #[v, .int .i64 i, .pointer (some ⟨gw, 0, none⟩), .pointer (some ⟨go, 0, none⟩)] W fun e W' => (∃ u, e = .returned u) ∧ ∃ ov', Grew (A.setRow go #[ov']) W' ∧ OwnE 32 Idb.cs W' A.heap.size 24 ov' (d ++ path ls i) := by
  obtain ⟨ii, hif, hz, hsz, hby⟩ := info_id
  intro f
  induction f with
  | zero => intro ls i v W ov d h1 h2; omega
  | succ f ih =>
    intro ls i v W ov d hf h1 hl hi hd hv hW ho
    have facts : ∀ (W : World) (ov : Value), Grew (A.setRow go #[ov]) W → Grew w0 W ∧ W.cell? ⟨gw, 0, none⟩ = some (walkFn gw go) ∧ W.cell? ⟨go, 0, none⟩ = some ov ∧ W.frozen? ⟨go, 0, none⟩ = false ∧ W.rowFree go = true ∧ W.rowAt go = #[ov] ∧ go < W.heap.size ∧ gw < W.heap.size ∧ A.heap.size ≤ W.heap.size := fun W ov hg => by
      have hsz := hg.size
      rw [setRow_size] at hsz
      have r : W.rowAt go = #[ov] := by rw [Grew.rowAt hg _ (by rw [setRow_size]; exact hgo2), rowAt_setRow_free _ _ _ hfA]
      have fr : W.rowFree go = true := by rw [Grew.rowFree hg _ (by rw [setRow_size]; exact hgo2), rowFree_setRow_free _ _ _ hfA]
      refine ⟨(Grew.setRow_new hA go _ hgo).trans hg, hg.cell ?_, ?_, ?_, fr, r, by omega, by omega, hsz⟩
      · exact (World.cell?_of_block (World.heap_setRow_ne _ _ _ _ hne)).trans hcell
      · rw [cell_rowAt, r]; rfl
      · have h3 := frozen_setRow_free W go (W.rowAt go) fr 0
        rwa [setRow_same' _ _ fr] at h3
    obtain ⟨g0, cw, co, cf, rf, rr, zo, zw, zA⟩ := facts W ov hW
    rcases Nat.lt_or_ge ls.length 2 with h2 | h2
    · obtain ⟨p, c, rfl⟩ := showsI_form hv
      have hl1 : ls.length = 1 := by omega
      rw [path_one ls i (by omega), List.append_nil]
      rw [hl1]
      have HW := Lib.hid hW
      have HO := Lib.hid ho
      clear facts cw co cf rf rr hW ho hcell hfA g0 ih hv
      go_enter Try.func49, Try.ntmps49
      go_wp2
      exact bodyPost_ret (results_none rfl _ _ _) rfl ⟨⟨_, rfl⟩, _, HW.out, HO.out⟩
    · obtain ⟨b, o, hvv, hat⟩ : ∃ b o, (∃ c, v = .slice (some ⟨b, o, none⟩) ls.length c ∧ ls.length ≤ c ∧ b < w0.heap.size) ∧ ∀ j x, ls[j]? = some x → w0.rangeAt b (o + j * 32) x.cs := by
        obtain ⟨p, c, rfl⟩ := showsI_form hv
        obtain ⟨b, o, rfl, _, hc, hb, hat⟩ := showsI_some hv (by omega)
        exact ⟨b, o, ⟨c, rfl, hc, hb⟩, hat⟩
      obtain ⟨c, rfl, hc, hb⟩ := hvv
      have hs := half_sand ls.length h2 (by omega)
      have hp := half_pos ls.length
      have pl := path_left ls i h2 (by omega)
      have pr := path_right ls i h2 (by omega)
      obtain ⟨k, hk⟩ : ∃ k, halfN ls.length = k := ⟨_, rfl⟩
      rw [hk] at hs hp pl pr
      have hl1 : (ls.take k).length = k := by rw [List.length_take]; omega
      have hl2 : (ls.drop k).length = ls.length - k := by rw [List.length_drop]
      have p1 : ShowsI w0 (.slice (some ⟨b, o, none⟩) k c) (ls.take k) := by
        have := showsI_part (o := o) hb hat 0 k c (by omega) (by omega)
        simpa using this
      have p2 : ShowsI w0 (.slice (some ⟨b, o + k * 32, none⟩) (ls.length - k) (c - k)) (ls.drop k) := by
        have := showsI_part (o := o) hb hat k (ls.length - k) (c - k) (by omega) (by omega)
        rwa [List.take_of_length_le (by omega)] at this
      have c3 : ∀ W : World, Calls Try.prog 50 #[.int .i64 ls.length] W fun e w' => e = .returned (.int .i64 (k : Nat)) ∧ Grew W w' := fun W => by rw [← hk]; exact half_w ls.length h2 (by omega) W
      have r1 : ∀ W, Grew w0 W → Calls Try.prog 34 #[.slice (some ⟨b, o, none⟩) k c] W fun e w' => e = .returned (.agg (iv (root (ls.take k)).l)) ∧ Grew W w' := fun W g => root_w _ _ _ W (Nat.le_refl _) (by omega) (p1.grew g)
      have r2 : ∀ W, Grew w0 W → Calls Try.prog 34 #[.slice (some ⟨b, o + k * 32, none⟩) (ls.length - k) (c - k)] W fun e w' => e = .returned (.agg (iv (root (ls.drop k)).l)) ∧ Grew W w' := fun W g => root_w _ _ _ W (Nat.le_refl _) (by omega) (p2.grew g)
      have k3 : ¬ c = k := by omega
      have k1 : (k : Int) ≤ (c : Int) := by omega
      have HF := Lib.hid facts
      have HD := Lib.hid hd
      have hlk : k < ls.length := hs.2.1
      by_cases hik : i < k
      · have hik' : (i : Int) < (k : Int) := by omega
        have HP := Lib.hid (pl hik)
        have C1 := Lib.hid (fun W' hg ho => ih (ls.take k) i _ W' ov d (by omega) (by omega) (by omega) (by omega) (by omega) p1 hg ho)
        have hpl : (path (ls.take k) i).length < k := by rw [path_len _ _ (by omega), hl1]; exact side_len k i (by omega) (by omega)
        have R1 := Lib.hid r2
        have HGO := Lib.hid hgo2
        have C3 := Lib.hid c3
        have HW := Lib.hid hW
        have HO := Lib.hid ho
        have G0 := Lib.hid g0
        have hdl : (d ++ path (ls.take k) i).length + 1 ≤ 20000 := by rw [List.length_append]; omega
        have hNI : (ls.length : Int) ≤ 1000 := by omega
        have hkN : (k : Int) ≤ (ls.length : Int) := by omega
        have hk0 : 1 ≤ (k : Int) := by omega
        have hxo := (root (ls.drop k)).len
        obtain ⟨x, hx⟩ : ∃ x, root (ls.drop k) = x := ⟨_, rfl⟩
        rw [hx] at HP R1 hxo
        have n1 : ¬ (ls.length : Int) = 1 := by omega
        clear facts hW ho hcell hfA g0 ih hv r1 r2 c3 pl pr p1 p2 hd hat hx hl1 hl2 hk
        obtain ⟨N, hN⟩ : ∃ N, ls.length = N := ⟨_, rfl⟩
        simp only [hN] at C1 C3 R1 hNI hkN n1 hc ⊢
        clear hs hp h2 h1 hf hl hi hpl hik hlk
        unfold walkFn at cw
        go_enter Try.func49, Try.ntmps49
        go_wp2_with (go_at_call 50; refine (C3.out _).mono ?_; rintro e w' ⟨rfl, δ, rfl⟩)
        refine wp_region_flowX [5] (by kernel_rfl) ?_
        intro δf
        apply wpFlowX_quiets [0,1,2,3,4] (by decide +kernel) (by decide +kernel) (by kernel_rfl) (by intro _ _ _ d _ h; cases d <;> exact h) _
        · intro A hA δ'
          simp only [pickOps_cons, pickOps_nil, pick1_zero, pick1_succ]
          repeat (go_big_quiet_step ((fail)))
          exact wpQuiet_nil hA.out.symm
        refine wpFlowX_esc 5 (by decide +kernel) (by kernel_rfl) (by decide +kernel) (by decide +kernel) ?_
        simp only [pickOps_cons, pickOps_nil, pick1_zero, pick1_succ]
        intro δf
        go_wp2_with (go_at_call 49; refine stop_of ?_)
        unfold Stop
        refine (C1.out _ (HW.out.trans (by repeat (first | with_reducible exact Grew.refl _ | with_reducible apply Grew.alloc | with_reducible apply Grew.grow | with_reducible apply Grew.drew | with_reducible apply Grew.drewN))) (HO.out.grew (by repeat (first | with_reducible exact Grew.refl _ | with_reducible apply Grew.alloc | with_reducible apply Grew.grow | with_reducible apply Grew.drew | with_reducible apply Grew.drewN)))).mono ?_
        rintro e W1 ⟨⟨u, rfl⟩, ov1, hg1, ho1⟩
        obtain ⟨g01, cw1, co1, cf1, rf1, rr1, zo1, zw1, zA1⟩ := HF.out W1 ov1 hg1
        have HW1 := Lib.hid hg1
        have HO1 := Lib.hid ho1
        have G01 := Lib.hid g01
        clear hg1 ho1 g01 cw co cf rf rr cw1 zo zw zA hA hgo hgo2 hgw hne
        simp only []
        go_wp2
        refine wpAny_end (by decide +kernel) (by kernel_rfl) ?_
        go_wp2
        refine wp_region_flowX [4,5] (by kernel_rfl) ?_
        intro δf
        apply wpFlowX_quiets [0,1] (by decide +kernel) (by decide +kernel) (by kernel_rfl) (by intro _ _ _ d _ h; cases d <;> exact h) _
        · intro A hA δ'
          simp only [pickOps_cons, pickOps_nil, pick1_zero, pick1_succ]
          repeat (go_big_quiet_step ((fail)))
          exact wpQuiet_nil hA.out.symm
        apply wpFlowX_quiets [2] (by decide +kernel) (by decide +kernel) (by kernel_rfl) (by intro _ _ _ d _ h; cases d <;> exact h) _
        · intro A hA δ'
          simp only [pickOps_cons, pickOps_nil, pick1_zero, pick1_succ]
          repeat (go_big_quiet_step ((go_at_call 34; exact Calls.pure_of_g3 (R1.out _ (G01.out.trans (by repeat (first | with_reducible exact Grew.refl _ | with_reducible apply Grew.alloc | with_reducible apply Grew.grow | with_reducible apply Grew.drew | with_reducible apply Grew.drewN)))))))
          exact wpQuiet_nil hA.out.symm
        refine wpFlowX_one 3 (by decide +kernel) (by kernel_rfl) (by decide +kernel) (by decide +kernel) ?_
        simp only [pickOps_cons, pickOps_nil, pick1_zero, pick1_succ]
        intro δf
        go_wp2_with (fail)
        refine ⟨(by first | assumption | (simp only [grow_grow, Array.append_assoc]; assumption) | exact Grew.refl _ | (simp only [grow_grow, Array.append_assoc]; exact (by repeat (first | with_reducible exact Grew.refl _ | with_reducible apply Grew.alloc | with_reducible apply Grew.grow | with_reducible apply Grew.drew | with_reducible apply Grew.drewN))) | exact (by repeat (first | with_reducible exact Grew.refl _ | with_reducible apply Grew.alloc | with_reducible apply Grew.grow | with_reducible apply Grew.drew | with_reducible apply Grew.drewN))), ?_⟩
        refine wpFlowX_esc 4 (by decide +kernel) (by kernel_rfl) (by decide +kernel) (by decide +kernel) ?_
        simp only [pickOps_cons, pickOps_nil, pick1_zero, pick1_succ]
        intro δf
        refine wpList_abs ?_
        intro X hX
        have gX : Grew W1 X := by rw [hX]; exact (by repeat (first | with_reducible exact Grew.refl _ | with_reducible apply Grew.alloc | with_reducible apply Grew.grow | with_reducible apply Grew.drew | with_reducible apply Grew.drewN))
        refine wpList_appendE Idb.cs_len (by decide) rfl _ _ _ rfl _ ii _ 32 under_ids hif hz hsz hby (by exact (iv_size id0).trans id0_len) cs_one (A.setRow go #[ov1]) X A.heap.size _ _ rfl rfl (d ++ path (ls.take k) i) [x] (HW1.out.trans gX) (by rw [setRow_size]; exact Nat.le_refl _) (Nat.le_trans zA1 gX.size) (by exact HO1.out.grew gX) (by rw [hX]; exact (showsE_one_g Idb.cs_len _ _ x _ _ (by omega)).grew ⟨_, rfl⟩) (by simp only [maxLen, List.length_cons, List.length_nil]; omega) (by simp only [List.length_cons, List.length_nil]; omega) (by simp) ?_
        intro v2 W2 ho2 hg2 _
        obtain ⟨g2, cap2, rfl, _⟩ := ho2.form.resolve_left (by rintro ⟨_, h⟩; simp at h)
        have el : (d ++ path (ls.take k) i ++ [x]).length = d.length + ((path (ls.take k) i).length + 1) := by simp [Nat.add_assoc]
        rw [el] at ho2 ⊢
        have hgg := (ho2.block g2 rfl).1
        refine wpList_nil_then ?_
        obtain ⟨_, _, co2, cf2, rf2, rr2, _, _, _⟩ := HF.out W2 ov1 hg2
        have HG2 := Lib.hid hg2
        have HO2 := Lib.hid ho2
        clear hg2 ho2
        refine wpAny_one 5 (by decide +kernel) (by kernel_rfl) (by decide +kernel) ?_
        simp only [pickOps_cons, pickOps_nil, pick1_zero, pick1_succ]
        go_wp2_with (fail)
        refine wpAny_end (by decide +kernel) (by kernel_rfl) ?_
        go_wp2
        go_end0
        refine ⟨⟨_, rfl⟩, .slice (some ⟨g2, 0, none⟩) (d.length + ((path (ls.take k) i).length + 1)) cap2, ?_, ?_⟩
        · rw [setCell_row1 rf2 rr2]
          have h3 := Grew.setRow_old HG2.out go #[.slice (some ⟨g2, 0, none⟩) (d.length + ((path (ls.take k) i).length + 1)) cap2] (by rw [setRow_size]; exact HGO.out)
          rw [setRow_setRow] at h3
          exact h3
        · rw [setCell_row1 rf2 rr2, HP.out, ← List.append_assoc]
          have hne : (Value.slice (some ⟨g2, 0, none⟩) (d.length + ((path (ls.take k) i).length + 1)) cap2).ownBlock ≠ some go := fun e => by
            have h4 : g2 = go := by simpa [Value.ownBlock] using e
            have := HGO.out
            omega
          exact HO2.out.kept (grownBy_setRow W2 go _) (.inr hne)
      · have hik' : ¬ (i : Int) < (k : Int) := by omega
        have HP := Lib.hid (pr hik)
        have hij : (i : Int) - (k : Int) = ((i - k : Nat) : Int) := by omega
        have C1 := Lib.hid (fun W' hg ho => ih (ls.drop k) (i - k) _ W' ov d (by omega) (by omega) (by omega) (by omega) (by omega) p2 hg ho)
        have hpl : (path (ls.drop k) (i - k)).length < ls.length := by rw [path_len _ _ (by omega), hl2]; have := side_len (ls.length - k) (i - k) (by omega) (by omega); omega
        have hiI : (i : Int) ≤ 1000 := by omega
        have hki : (k : Int) ≤ (i : Int) := by omega
        obtain ⟨j, hj⟩ : ∃ j, i - k = j := ⟨_, rfl⟩
        have hjI : (j : Int) ≤ 1000 := by omega
        rw [hj] at HP hij C1 hpl
        have R1 := Lib.hid r1
        have HGO := Lib.hid hgo2
        have C3 := Lib.hid c3
        have HW := Lib.hid hW
        have HO := Lib.hid ho
        have G0 := Lib.hid g0
        have hdl : (d ++ path (ls.drop k) j).length + 1 ≤ 20000 := by rw [List.length_append]; omega
        have hNI : (ls.length : Int) ≤ 1000 := by omega
        have hkN : (k : Int) ≤ (ls.length : Int) := by omega
        have hk0 : 1 ≤ (k : Int) := by omega
        have hxo := (root (ls.take k)).len
        obtain ⟨x, hx⟩ : ∃ x, root (ls.take k) = x := ⟨_, rfl⟩
        rw [hx] at HP R1 hxo
        have n1 : ¬ (ls.length : Int) = 1 := by omega
        clear facts hW ho hcell hfA g0 ih hv r1 r2 c3 pl pr p1 p2 hd hat hx hl1 hl2 hk
        obtain ⟨N, hN⟩ : ∃ N, ls.length = N := ⟨_, rfl⟩
        simp only [hN] at C1 C3 R1 hNI hkN n1 hc ⊢
        clear hs hp h2 h1 hf hl hi hpl hik hlk
        unfold walkFn at cw
        go_enter Try.func49, Try.ntmps49
        go_wp2_with (go_at_call 50; refine (C3.out _).mono ?_; rintro e w' ⟨rfl, δ, rfl⟩)
        refine wp_region_flowX [7] (by kernel_rfl) ?_
        intro δf
        apply wpFlowX_quiets [0,1,2,3,4,5,6] (by decide +kernel) (by decide +kernel) (by kernel_rfl) (by intro _ _ _ d _ h; cases d <;> exact h) _
        · intro A hA δ'
          simp only [pickOps_cons, pickOps_nil, pick1_zero, pick1_succ]
          repeat (go_big_quiet_step ((fail)))
          exact wpQuiet_nil hA.out.symm
        refine wpFlowX_esc 7 (by decide +kernel) (by kernel_rfl) (by decide +kernel) (by decide +kernel) ?_
        simp only [pickOps_cons, pickOps_nil, pick1_zero, pick1_succ]
        intro δf
        go_wp2_with (go_at_call 49; refine stop_of ?_)
        unfold Stop
        refine (C1.out _ (HW.out.trans (by repeat (first | with_reducible exact Grew.refl _ | with_reducible apply Grew.alloc | with_reducible apply Grew.grow | with_reducible apply Grew.drew | with_reducible apply Grew.drewN))) (HO.out.grew (by repeat (first | with_reducible exact Grew.refl _ | with_reducible apply Grew.alloc | with_reducible apply Grew.grow | with_reducible apply Grew.drew | with_reducible apply Grew.drewN)))).mono ?_
        rintro e W1 ⟨⟨u, rfl⟩, ov1, hg1, ho1⟩
        obtain ⟨g01, cw1, co1, cf1, rf1, rr1, zo1, zw1, zA1⟩ := HF.out W1 ov1 hg1
        have HW1 := Lib.hid hg1
        have HO1 := Lib.hid ho1
        have G01 := Lib.hid g01
        clear hg1 ho1 g01 cw co cf rf rr cw1 zo zw zA hA hgo hgo2 hgw hne
        simp only []
        go_wp2
        refine wpAny_end (by decide +kernel) (by kernel_rfl) ?_
        go_wp2
        refine wp_region_flowX [4,5] (by kernel_rfl) ?_
        intro δf
        apply wpFlowX_quiets [0,1] (by decide +kernel) (by decide +kernel) (by kernel_rfl) (by intro _ _ _ d _ h; cases d <;> exact h) _
        · intro A hA δ'
          simp only [pickOps_cons, pickOps_nil, pick1_zero, pick1_succ]
          repeat (go_big_quiet_step ((fail)))
          exact wpQuiet_nil hA.out.symm
        apply wpFlowX_quiets [2] (by decide +kernel) (by decide +kernel) (by kernel_rfl) (by intro _ _ _ d _ h; cases d <;> exact h) _
        · intro A hA δ'
          simp only [pickOps_cons, pickOps_nil, pick1_zero, pick1_succ]
          repeat (go_big_quiet_step ((go_at_call 34; exact Calls.pure_of_g3 (R1.out _ (G01.out.trans (by repeat (first | with_reducible exact Grew.refl _ | with_reducible apply Grew.alloc | with_reducible apply Grew.grow | with_reducible apply Grew.drew | with_reducible apply Grew.drewN)))))))
          exact wpQuiet_nil hA.out.symm
        refine wpFlowX_one 3 (by decide +kernel) (by kernel_rfl) (by decide +kernel) (by decide +kernel) ?_
        simp only [pickOps_cons, pickOps_nil, pick1_zero, pick1_succ]
        intro δf
        go_wp2_with (fail)
        refine ⟨(by first | assumption | (simp only [grow_grow, Array.append_assoc]; assumption) | exact Grew.refl _ | (simp only [grow_grow, Array.append_assoc]; exact (by repeat (first | with_reducible exact Grew.refl _ | with_reducible apply Grew.alloc | with_reducible apply Grew.grow | with_reducible apply Grew.drew | with_reducible apply Grew.drewN))) | exact (by repeat (first | with_reducible exact Grew.refl _ | with_reducible apply Grew.alloc | with_reducible apply Grew.grow | with_reducible apply Grew.drew | with_reducible apply Grew.drewN))), ?_⟩
        refine wpFlowX_esc 4 (by decide +kernel) (by kernel_rfl) (by decide +kernel) (by decide +kernel) ?_
        simp only [pickOps_cons, pickOps_nil, pick1_zero, pick1_succ]
        intro δf
        refine wpList_abs ?_
        intro X hX
        have gX : Grew W1 X := by rw [hX]; exact (by repeat (first | with_reducible exact Grew.refl _ | with_reducible apply Grew.alloc | with_reducible apply Grew.grow | with_reducible apply Grew.drew | with_reducible apply Grew.drewN))
        refine wpList_appendE Idb.cs_len (by decide) rfl _ _ _ rfl _ ii _ 32 under_ids hif hz hsz hby (by exact (iv_size id0).trans id0_len) cs_one (A.setRow go #[ov1]) X A.heap.size _ _ rfl rfl (d ++ path (ls.drop k) j) [x] (HW1.out.trans gX) (by rw [setRow_size]; exact Nat.le_refl _) (Nat.le_trans zA1 gX.size) (by exact HO1.out.grew gX) (by rw [hX]; exact (showsE_one_g Idb.cs_len _ _ x _ _ (by omega)).grew ⟨_, rfl⟩) (by simp only [maxLen, List.length_cons, List.length_nil]; omega) (by simp only [List.length_cons, List.length_nil]; omega) (by simp) ?_
        intro v2 W2 ho2 hg2 _
        obtain ⟨g2, cap2, rfl, _⟩ := ho2.form.resolve_left (by rintro ⟨_, h⟩; simp at h)
        have el : (d ++ path (ls.drop k) j ++ [x]).length = d.length + ((path (ls.drop k) j).length + 1) := by simp [Nat.add_assoc]
        rw [el] at ho2 ⊢
        have hgg := (ho2.block g2 rfl).1
        refine wpList_nil_then ?_
        obtain ⟨_, _, co2, cf2, rf2, rr2, _, _, _⟩ := HF.out W2 ov1 hg2
        have HG2 := Lib.hid hg2
        have HO2 := Lib.hid ho2
        clear hg2 ho2
        refine wpAny_one 5 (by decide +kernel) (by kernel_rfl) (by decide +kernel) ?_
        simp only [pickOps_cons, pickOps_nil, pick1_zero, pick1_succ]
        go_wp2_with (fail)
        refine wpAny_end (by decide +kernel) (by kernel_rfl) ?_
        go_wp2
        go_end0
        refine ⟨⟨_, rfl⟩, .slice (some ⟨g2, 0, none⟩) (d.length + ((path (ls.drop k) j).length + 1)) cap2, ?_, ?_⟩
        · rw [setCell_row1 rf2 rr2]
          have h3 := Grew.setRow_old HG2.out go #[.slice (some ⟨g2, 0, none⟩) (d.length + ((path (ls.drop k) j).length + 1)) cap2] (by rw [setRow_size]; exact HGO.out)
          rw [setRow_setRow] at h3
          exact h3
        · rw [setCell_row1 rf2 rr2, HP.out, ← List.append_assoc]
          have hne : (Value.slice (some ⟨g2, 0, none⟩) (d.length + ((path (ls.drop k) j).length + 1)) cap2).ownBlock ≠ some go := fun e => by
            have h4 : g2 = go := by simpa [Value.ownBlock] using e
            have := HGO.out
            omega
          exact HO2.out.kept (grownBy_setRow W2 go _) (.inr hne)
end Go.Proofs.Ytinkdkcmmjfhoaa
/- slices.Grow, Concat, Clone of ids. -/
namespace Go.Proofs.Ytinkdkcmmjfhoaa
set_option linter.unusedVariables false
set_option linter.unusedSimpArgs false
open Go.RowKit
theorem zeroCells_size (z : Array Value) (n : Nat) : (Builtin.zeroCells z n).size = n * z.size := by simp [Builtin.zeroCells]
theorem id0_cells : (Value.agg (iv id0)).cells.size = 32 := (iv_size id0).trans id0_len
set_option maxRecDepth 100000 in
set_option maxHeartbeats 1600000 in
theorem growI_w (n : Nat) (hn : n ≤ 1000000) (w : World) :
    Calls Try.prog 46 #[.slice none 0 0, .int .i64 (n : Int)] w fun e w' => ∃ v, e = .returned v ∧ OwnE 32 Idb.cs w' w.heap.size 24 v [] ∧ Grew w w' := by
  obtain ⟨i, hi, hz, hs, hb⟩ := info_id
  by_cases h0 : n = 0
  · subst h0
    go_enter Try.func46, Try.ntmps46
    go_wp2
    go_ret
    exact ⟨_, rfl, OwnE.nil _ _ _, (by repeat (first | with_reducible exact Grew.refl _ | with_reducible apply Grew.alloc | with_reducible apply Grew.grow | with_reducible apply Grew.drew | with_reducible apply Grew.drewN))⟩
  · have h1 : ¬ ((n : Int) < 0) := by omega
    have h2 : 0 < (n : Int) := by omega
    have hr := fun w => Lib.run_append_nil_zeros (P := Try.prog) w 22 3 22 24 i (.agg (iv id0)) .i64 .i64 under_ids (by kernel_rfl) hi hz n (by omega) (by omega) (by omega) (by rw [hb]; omega)
    go_enter Try.func46, Try.ntmps46
    go_wp2_with (at_builtin; refine Lib.wpList_append_run _ rfl _ _ _ _ rfl _ _ rfl rfl _ _ (hr _) ?_)
    go_ret
    have hcap := grownCap_ge w n 0 24
    have hmax := grownCap_le_maxLen w n 0 24 (by simp only [maxLen]; omega)
    refine ⟨_, rfl, ⟨rfl, .inr ⟨_, _, _, rfl, Nat.le_refl _, heap_alloc_new w _, Nat.zero_le _, hmax, ?_, rfl⟩⟩, (by repeat (first | with_reducible exact Grew.refl _ | with_reducible apply Grew.alloc | with_reducible apply Grew.grow | with_reducible apply Grew.drew | with_reducible apply Grew.drewN))⟩
    rw [Array.size_append, zeroCells_size, zeroCells_size]
    show n * (iv id0).size + (grownCap w n 0 24 - n) * (iv id0).size = _
    rw [iv_size, id0_len, ← Nat.add_mul]
    congr 1
    omega
def catI (ls : List (List Idb)) (k : Nat) : List Idb := (ls.take k).flatten
theorem catI_0 (ls : List (List Idb)) : catI ls 0 = [] := by simp [catI]
theorem catI_succ (ls : List (List Idb)) (k : Nat) (h : k < ls.length) : catI ls (k + 1) = catI ls k ++ ls.getD k [] := by
  unfold catI
  rw [List.take_add_one, List.flatten_append]
  congr 1
  simp [List.getD, h]
theorem catI_all (ls : List (List Idb)) : catI ls ls.length = ls.flatten := by simp [catI]
theorem catI_le (ls : List (List Idb)) (k : Nat) : (catI ls k).length ≤ ls.flatten.length := by
  unfold catI
  conv => rhs; rw [← List.take_append_drop k ls]
  rw [List.flatten_append, List.length_append]
  omega
theorem catI_len (ls : List (List Idb)) (k : Nat) (h : k < ls.length) : (catI ls (k + 1)).length = (catI ls k).length + (ls.getD k []).length := by rw [catI_succ ls k h, List.length_append]
set_option maxRecDepth 100000 in
set_option maxHeartbeats 3200000 in
theorem concatI_w (ls : List (List Idb)) (vs : List Value) (lv : Value) (w : World) (hvs : vs.length = ls.length) (hne : 0 < ls.length) (hl : Shows w lv vs)
    (hs : ∀ k, k < ls.length → ShowsI w (vs.getD k undef) (ls.getD k [])) (hN : ls.flatten.length ≤ 1000000) (hL : ls.length ≤ 1000000) :
    Calls Try.prog 25 #[lv] w fun e w' => ∃ v, e = .returned v ∧ OwnE 32 Idb.cs w' w.heap.size 24 v ls.flatten ∧ Grew w w' := by
  obtain ⟨i, hi, hz, hsz, hby⟩ := info_id
  rcases hl with ⟨b, o, c, rfl, hb, hc⟩ | ⟨p0, c0, rfl, h0⟩
  rotate_left
  · rw [h0] at hvs; simp at hvs; omega
  · have HC := Lib.hid hc
    have HS := Lib.hid hs
    have HV := Lib.hid hvs
    rw [hvs]
    clear hc hs hvs
    go_enter Try.func25, Try.ntmps25
    go_wp2
    go_loopw [11, 3] (fun n m wr => ∃ k : Nat, k ≤ ls.length ∧ n = .int .i64 k ∧ m = .int .i64 ((catI ls k).length : Nat) ∧ wr = w) (fun n _ _ => ls.length - (intOf n).toNat)
    case atStart => exact ⟨0, by omega, rfl, rfl, rfl⟩
    case round =>
      obtain ⟨k, hk, rfl, rfl, rfl⟩ := hrel
      by_cases hn : k < ls.length
      · have hlt : (k : Int) < (ls.length : Int) := by omega
        obtain ⟨p, c', hv⟩ := showsI_form (HS.out k hn)
        have hcell := HC.out k (.slice p (ls.getD k []).length c') (by rw [← hv]; simp [List.getD, HV.out, hn])
        have e1 := catI_len ls k hn
        have e2 := catI_le ls (k + 1)
        have e3 : (((catI ls k).length : Int) + ((ls.getD k []).length : Int)) = ((catI ls (k + 1)).length : Nat) := by omega
        have e4 : ¬ (((catI ls (k + 1)).length : Int) < 0) := by omega
        clear hv
        generalize (ls.getD k []).length = q at *
        have e6 : IntKind.i64.wrap (((catI ls k).length : Int) + (q : Int)) = ((catI ls (k + 1)).length : Nat) := by rw [IntKind.wrap_i64]; omega
        clear e1 e2 e3
        obtain ⟨q1, hq1⟩ : ∃ q1, (catI ls k).length = q1 := ⟨_, rfl⟩
        obtain ⟨q2, hq2⟩ : ∃ q2, (catI ls (k + 1)).length = q2 := ⟨_, rfl⟩
        rw [hq1, hq2] at e6
        rw [hq2] at e4
        rw [hq1]
        have HQ := Lib.hid hq2
        clear hq1 hq2
        go_wp2
        exact ⟨⟨k + 1, by omega, by go_num, by rw [HQ.out], trivial⟩, by simp only [intOf]; omega⟩
      · obtain rfl : k = ls.length := by omega
        clear hk hn
        have hge : ¬ ((ls.length : Int) < (ls.length : Int)) := by omega
        go_wp2_with (go_at_call 46; refine (growI_w _ (by rw [catI_all]; exact hN) _).mono ?_; rintro e w' ⟨v, rfl, ho, hg⟩)
        have HG := Lib.hid hg
        have HO := Lib.hid ho
        have hb2 : wr.heap.size ≤ w'.heap.size := hg.size
        clear hg ho
        go_loopw [27, 6] (fun n v2 w2 => ∃ k : Nat, k ≤ ls.length ∧ n = .int .i64 k ∧ OwnE 32 Idb.cs w2 wr.heap.size 24 v2 (catI ls k) ∧ Grew wr w2) (fun n _ _ => ls.length - (intOf n).toNat)
        case atStart => exact ⟨0, by omega, rfl, by rw [catI_0]; exact HO.out, HG.out⟩
        case round =>
          obtain ⟨k, hk, rfl, ho2, hg2⟩ := hrel
          by_cases hn : k < ls.length
          · have hlt : (k : Int) < (ls.length : Int) := by omega
            have hsk := (HS.out k hn).grew hg2
            obtain ⟨p, c', hv⟩ := showsI_form (HS.out k hn)
            rw [hv] at hsk
            have hcell := hg2.cell (HC.out k (.slice p (ls.getD k []).length c') (by rw [← hv]; simp [List.getD, HV.out, hn]))
            have e1 := catI_len ls k hn
            have e2 := catI_le ls (k + 1)
            have HS2 := hsk
            have HO2 := Lib.hid ho2
            have HG2 := Lib.hid hg2
            have hsz2 := hg2.size
            have e7 := catI_succ ls k hn
            obtain ⟨m, hm⟩ : ∃ m, ls.getD k [] = m := ⟨_, rfl⟩
            rw [hm] at HS2 hcell e1 e7
            have E7 := Lib.hid e7
            have HS3 := Lib.hid HS2
            clear HS2
            clear hv hsk ho2 hg2 hm e7
            go_wp2_with (at_builtin; refine stop_of ?_)
            unfold Stop
            refine wpList_appendE2 Idb.cs_len (by decide) rfl _ _ _ rfl _ i _ 32 under_ids hi hz hsz hby id0_cells cs_one _ _ _ _ _ rfl rfl _ m HG2.out (Nat.le_refl _) hsz2 (by exact HO2.out) (by exact HS3.out) (by simp only [maxLen]; omega) (by omega) ?_
            intro v' w2' ho' hg'
            go_wp2
            refine ⟨⟨k + 1, by omega, by go_num, by rw [E7.out]; exact ho', hg'⟩, by simp only [intOf]; omega⟩
          · obtain rfl : k = ls.length := by omega
            clear hk hn
            have hge : ¬ ((ls.length : Int) < (ls.length : Int)) := by omega
            rw [catI_all] at ho2
            go_wp2
            go_ret
            exact ⟨_, rfl, ho2, hg2⟩
@[go_sem] theorem eql_nil_ids (w : World) (a : Option Addr) (n c : Nat) : (binOp .eql 22 (.slice a n c) (.slice none 0 0)).run Try.prog w = .ok (.bool a.isNone) w := Lib.run_eql_slice_nil w 22 24 a n c 0 0 under_ids
set_option maxRecDepth 100000 in
set_option maxHeartbeats 3200000 in
theorem cloneI_w (ls : List Idb) (v : Value) (w : World) (hv : ShowsI w v ls) (hl : ls.length ≤ 1000000) :
    Calls Try.prog 24 #[v] w fun e w' => ∃ v', e = .returned v' ∧ OwnE 32 Idb.cs w' w.heap.size 24 v' ls ∧ Grew w w' := by
  obtain ⟨i, hi, hz, hsz, hby⟩ := info_id
  obtain ⟨p, c, rfl⟩ := showsI_form hv
  have HV := Lib.hid hv
  obtain ⟨N, hN⟩ : ∃ N, ls.length = N := ⟨_, rfl⟩
  have HN := Lib.hid hN
  rw [hN] at HV ⊢
  clear hv hN
  go_enter Try.func24, Try.ntmps24
  cases p with
  | none =>
    obtain rfl : ls = [] := by
      rcases HV.out with ⟨b, o, c', h, _⟩ | ⟨_, _, _, h⟩
      · simp at h
      · exact h
    go_wp2
    go_ret
    exact ⟨_, rfl, OwnE.nil _ _ _, Grew.refl _⟩
  | some a =>
    go_wp2_with (at_builtin; refine stop_of ?_)
    unfold Stop
    have o0 := OwnE.made Idb.cs_len w w.heap.size 24 [] (Nat.le_refl _) (by simp [maxLen])
    have O0 := Lib.hid (show OwnE 32 Idb.cs (w.alloc (.cells #[] 24)) w.heap.size 24 (.slice (some ⟨w.heap.size, 0, none⟩) 0 0) [] from o0)
    clear o0
    refine wpList_appendE2 Idb.cs_len (by decide) rfl _ _ _ rfl _ i _ 32 under_ids hi hz hsz hby id0_cells cs_one w _ w.heap.size _ _ rfl rfl [] ls (by repeat (first | with_reducible exact Grew.refl _ | with_reducible apply Grew.alloc | with_reducible apply Grew.grow | with_reducible apply Grew.drew | with_reducible apply Grew.drewN)) (Nat.le_refl _) (by simp) (by exact O0.out) (by exact HV.out.grew (by repeat (first | with_reducible exact Grew.refl _ | with_reducible apply Grew.alloc | with_reducible apply Grew.grow | with_reducible apply Grew.drew | with_reducible apply Grew.drewN))) (by have := HN.out; simp [maxLen]; omega) (by have := HN.out; simp; omega) ?_
    intro v' w' ho' hg'
    rw [List.nil_append] at ho'
    have HO := Lib.hid ho'
    have HG := Lib.hid hg'
    clear ho' hg'
    go_wp2
    go_ret
    exact ⟨_, rfl, HO.out, HG.out⟩
end Go.Proofs.Ytinkdkcmmjfhoaa
/- math/bits.Mul, of 1 and a small number. -/
namespace Go.Proofs.Ytinkdkcmmjfhoaa
set_option linter.unusedVariables false
set_option linter.unusedSimpArgs false
open Go.RowKit
theorem mask_small (a : Nat) (ha : a < 4294967296) : bits .and .u64 (a : Int) 4294967295 = (a : Int) := by
  have h := bits_and_u64_nat a 4294967295 (by omega) (by omega)
  have e : a &&& 4294967295 = a % 4294967296 := Nat.and_two_pow_sub_one_eq_mod a 32
  rw [e, Nat.mod_eq_of_lt ha] at h
  exact h
set_option maxRecDepth 100000 in
set_option maxHeartbeats 3200000 in
theorem mul64_1 (k : Nat) (hk : k ≤ 1000) (w : World) : Calls Try.prog 64 #[.int .u64 1, .int .u64 (k : Int)] w fun e w' => e = .returned (.tuple #[.int .u64 0, .int .u64 (k : Int)]) ∧ w' = w := by
  have m1 := mask_small k (by omega)
  have m2 : bits .and .u64 1 4294967295 = 1 := by decide
  have m3 : bits .and .u64 0 4294967295 = 0 := by decide
  have d1 : (k : Int) / 4294967296 = 0 := by omega
  have hkI : (k : Int) ≤ 1000 := by omega
  go_enter Try.func64, Try.ntmps64
  go_wp2
  go_ret2
  exact ⟨rfl, rfl⟩
theorem mul_1 (k : Nat) (hk : k ≤ 1000) (w : World) : Calls Try.prog 47 #[.int .u64 1, .int .u64 (k : Int)] w fun e w' => e = .returned (.tuple #[.int .u64 0, .int .u64 (k : Int)]) ∧ w' = w := by
  have hkI : (k : Int) ≤ 1000 := by omega
  go_enter Try.func47, Try.ntmps47
  go_wp2_with (go_at_call 64; refine (mul64_1 k hk _).mono ?_; rintro e w' ⟨rfl, rfl⟩)
  go_ret2
  exact ⟨rfl, rfl⟩
end Go.Proofs.Ytinkdkcmmjfhoaa
/- slices.Repeat of one id. -/
namespace Go
set_option linter.unusedVariables false
set_option linter.unusedSimpArgs false
open Go.RowKit
theorem run_copyE {P : Program} (w : World) (dT sT ty elem : TypeId) (g o dLen dCap : Nat) (a : Addr) (sLen sCap S : Nat) (cur : Array Value) (t : TypeId) (cs : List Value)
    (hu : P.underlying dT = some (.slice elem)) (hs : (P.info? elem).map (·.size) = some S)
    (hg : w.heap[g]? = some (.cells cur t (0, 0))) (hn : cs.length = Nat.min sLen dLen * S)
    (hsrc : ∀ j v, cs[j]? = some v → w.cell? (a.add j) = some v) (hfit : o + cs.length ≤ cur.size) (h1 : ∀ v ∈ cs, v.oneCell' = true) :
    (Builtin.copy_ #[dT, sT] ty #[.slice (some ⟨g, o, none⟩) dLen dCap, .slice (some a) sLen sCap]).run P w =
      .ok (goInt (Nat.min sLen dLen)) (w.setRow g (cur.toList.take o ++ cs ++ cur.toList.drop (o + cs.length)).toArray) := by
  have hl := run_loadCells_list (P := P) w a cs hsrc
  have hst := run_storeCells_at P g o t cs 0 cur w hg (by simpa using hfit) h1
  rw [hn] at hl
  cases hq : P.info? elem with
  | none => simp [hq] at hs
  | some i =>
    have hi : i.size = S := by simpa [hq] using hs
    simp [Builtin.copy_, run_underlying hu, Builtin.lenOf, Builtin.firstCells, sizeOf, typeInfo, hq, hi, hl, hst]
theorem wpList_copy_runE {P : Program} (w : World) {ops : Array Oper} {rest : List Oper} {o : Oper} {a : Act} {Q : Exit → Act → World → Prop} (hgd : o.guard = none) (d s : Operand) (dT sT : TypeId)
    (ho : o.op = .call { callee := .builtin .copy, args := #[d, s], argTypes := #[dT, sT] }) (vd vs : Value) (hd : a.eval d = vd) (hs : a.eval s = vs) (v' : Value) (w' : World)
    (hrun : (Builtin.copy_ #[dT, sT] o.type #[vd, vs]).run P w = .ok v' w') (h : wpList P ops Q rest (a.put o.dst v') w') : wpList P ops Q (o :: rest) a w := by
  refine wpList_plain hgd fun K hK => ?_
  unfold Oper.wp
  simp [execOp, ho, resolve, invoke, builtin, hd, hs, hrun, Result.andThen]
  exact hK _ _ h
end Go
namespace Go.Proofs.Ytinkdkcmmjfhoaa
open Go.RowKit
def idz : Idb := ⟨id0, id0_len, by intro c hc; simp [id0] at hc; omega⟩
theorem all_eq_replicate (l : List Value) (v : Value) (h : ∀ u ∈ l, u = v) : l = List.replicate l.length v := List.eq_replicate_iff.2 ⟨rfl, h⟩
theorem idz_cells (n : Nat) : madeCells (Value.agg (iv id0)).cells (n * 32) = ((List.replicate n idz).flatMap Idb.cs).toArray := by
  apply Array.ext'
  have hz : ∀ k, (iv id0)[k % 32]! = .int .u8 0 := fun k => by
    have : k % 32 < 32 := Nat.mod_lt _ (by omega)
    have h : (iv id0)[k % 32]? = some (.int .u8 0) := by
      show (((List.replicate 32 0).map fun (c : Nat) => Value.int .u8 (c : Int)).toArray)[k % 32]? = _
      rw [List.getElem?_toArray, List.map_replicate, List.getElem?_replicate, if_pos this]
      rfl
    rw [getElem!_def, h]
  have e1 : (madeCells (Value.agg (iv id0)).cells (n * 32)).toList = List.replicate (n * 32) (.int .u8 0) := by
    refine (all_eq_replicate _ (.int .u8 0) ?_).trans (by simp [madeCells])
    intro u hu
    simp only [madeCells, Array.toList_map, List.mem_map] at hu
    obtain ⟨k, _, rfl⟩ := hu
    have : (Value.agg (iv id0)).cells = iv id0 := rfl
    rw [this, iv_size, id0_len]
    exact hz k
  have e2 : (List.replicate n idz).flatMap Idb.cs = List.replicate (n * 32) (.int .u8 0) := by
    have hl := flat_len (f := Idb.cs) (k := 32) Idb.cs_len (List.replicate n idz)
    rw [List.length_replicate] at hl
    refine (all_eq_replicate _ (.int .u8 0) ?_).trans (by rw [hl])
    intro u hu
    obtain ⟨x, hx, hu⟩ := List.mem_flatMap.1 hu
    rw [List.eq_of_mem_replicate hx] at hu
    simp [Idb.cs, idz, bys, id0] at hu
    exact hu
  rw [e1, e2]
@[go_sem] theorem make_ids (n : Nat) (hn : n ≤ 1000000) (w : World) : (Instr.makeSlice 22 (.int .i64 (n : Int)) (.int .i64 (n : Int))).run Try.prog w = .ok (.slice (some ⟨w.heap.size, 0, none⟩) n n) (w.alloc (.cells ((List.replicate n idz).flatMap Idb.cs).toArray 24)) := by
  obtain ⟨i, hi, hz, hsz, hby⟩ := info_id
  have h := run_make (P := Try.prog) w 22 24 i (.agg (iv id0)) under_ids hi hz .i64 .i64 n n (by omega) (by omega) (by rw [hby]; omega) (by omega)
  rw [h, hsz]
  simp only [Int.toNat_natCast]
  rw [idz_cells]
/-- 'n' of one, zeros behind. -/
def repL (id : Idb) (N n : Nat) : List Idb := List.replicate n id ++ List.replicate (N - n) idz
theorem repL_len (id : Idb) (N n : Nat) (h : n ≤ N) : (repL id N n).length = N := by simp [repL]; omega
theorem repL_all (id : Idb) (N : Nat) : repL id N N = List.replicate N id := by simp [repL]
theorem repL_step (id : Idb) (N n m : Nat) (h : n + m ≤ N) : (repL id N n).take n ++ List.replicate m id ++ (repL id N n).drop (n + m) = repL id N (n + m) := by
  unfold repL
  rw [List.take_left' (by simp), List.drop_append, List.length_replicate, List.drop_of_length_le (by simp), List.nil_append, List.drop_replicate, show N - n - (n + m - n) = N - (n + m) by omega, List.replicate_append_replicate]
theorem flat_splice (l : List Idb) (o m : Nat) (id : Idb) (cur : Array Value) (hc : cur.toList = l.flatMap Idb.cs) (ho : o + m ≤ l.length) :
    cur.toList.take (o * 32) ++ (List.replicate m id).flatMap Idb.cs ++ cur.toList.drop (o * 32 + ((List.replicate m id).flatMap Idb.cs).length) = (l.take o ++ List.replicate m id ++ l.drop (o + m)).flatMap Idb.cs := by
  have hl := flat_len (f := Idb.cs) (k := 32) Idb.cs_len (List.replicate m id)
  rw [List.length_replicate] at hl
  have ht := flat_len (f := Idb.cs) (k := 32) Idb.cs_len (l.take o)
  rw [List.length_take] at ht
  have ht2 := flat_len (f := Idb.cs) (k := 32) Idb.cs_len (l.take (o + m))
  rw [List.length_take] at ht2
  have e1 : (l.flatMap Idb.cs).take (o * 32) = (l.take o).flatMap Idb.cs := by
    conv => lhs; rw [← List.take_append_drop o l, List.flatMap_append]
    exact List.take_left' (by rw [ht]; congr 1; omega)
  have e2 : (l.flatMap Idb.cs).drop (o * 32 + m * 32) = (l.drop (o + m)).flatMap Idb.cs := by
    conv => lhs; rw [← List.take_append_drop (o + m) l, List.flatMap_append]
    exact List.drop_left' (by rw [ht2, ← Nat.add_mul]; congr 1; omega)
  rw [hc, hl, e1, e2, List.flatMap_append, List.flatMap_append]
end Go.Proofs.Ytinkdkcmmjfhoaa
/- slices.Repeat of one id: the walk. -/
namespace Go.Proofs.Ytinkdkcmmjfhoaa
set_option linter.unusedVariables false
set_option linter.unusedSimpArgs false
open Go.RowKit
theorem rep_stored {w0 W : World} {g N : Nat} {id : Idb} (n m : Nat) (hg : W.heap[g]? = some (.cells ((repL id N n).flatMap Idb.cs).toArray 24 (0, 0))) (hn : n + m ≤ N) (h0 : Grew w0 W) (hb : w0.heap.size ≤ g) :
    (W.setRow g (((repL id N n).flatMap Idb.cs).toArray.toList.take (n * 32) ++ (List.replicate m id).flatMap Idb.cs ++ ((repL id N n).flatMap Idb.cs).toArray.toList.drop (n * 32 + ((List.replicate m id).flatMap Idb.cs).length)).toArray).heap[g]? = some (.cells ((repL id N (n + m)).flatMap Idb.cs).toArray 24 (0, 0)) ∧
      Grew w0 (W.setRow g (((repL id N n).flatMap Idb.cs).toArray.toList.take (n * 32) ++ (List.replicate m id).flatMap Idb.cs ++ ((repL id N n).flatMap Idb.cs).toArray.toList.drop (n * 32 + ((List.replicate m id).flatMap Idb.cs).length)).toArray) := by
  have h := flat_splice (repL id N n) n m id ((repL id N n).flatMap Idb.cs).toArray rfl (by rw [repL_len id N n (by omega)]; exact hn)
  rw [h, repL_step id N n m hn]
  exact ⟨setRow_heap W g _ _ _ (0, 0) hg, Grew.setRow_new h0 g _ hb⟩
set_option maxRecDepth 100000 in
set_option maxHeartbeats 3200000 in
theorem repeat_w (id : Idb) (N : Nat) (h1 : 1 ≤ N) (hN : N ≤ 1000) (v : Value) (w : World) (hv : ShowsI w v [id]) :
    Calls Try.prog 26 #[v, .int .i64 (N : Int)] w fun e w' => ∃ v', e = .returned v' ∧ ShowsI w' v' (List.replicate N id) ∧ Grew w w' := by
  obtain ⟨b, o, c, rfl, hc, hb, hr⟩ : ∃ b o c, v = .slice (some ⟨b, o, none⟩) 1 c ∧ 1 ≤ c ∧ b < w.heap.size ∧ w.rangeAt b o id.cs := by
    obtain ⟨p, c, rfl⟩ := showsI_form hv
    obtain ⟨b, o, rfl, _, hc, hb, hat⟩ := showsI_some hv (by simp)
    exact ⟨b, o, c, rfl, hc, hb, by have := hat 0 id rfl; rwa [Nat.zero_mul, Nat.add_zero] at this⟩
  have hNI : (N : Int) ≤ 1000 := by omega
  have hN0 : ¬ (N : Int) < 0 := by omega
  have hN2 : N ≤ 1000000 := by omega
  have hd : decide (9223372036854775807 < (N : Int)) = false := decide_eq_false (by omega)
  obtain ⟨i, hif, hz, hsz, hby⟩ := info_id
  have hsz' : (Try.prog.info? 24).map (·.size) = some 32 := by rw [hif]; simp [hsz]
  obtain ⟨X, hX⟩ : ∃ X, w.alloc (.cells ((List.replicate N idz).flatMap Idb.cs).toArray 24) = X := ⟨_, rfl⟩
  have gX : Grew w X := by rw [← hX]; exact (by repeat (first | with_reducible exact Grew.refl _ | with_reducible apply Grew.alloc | with_reducible apply Grew.grow | with_reducible apply Grew.drew | with_reducible apply Grew.drewN))
  have e0 : repL id N 0 = List.replicate N idz := by simp [repL]
  have hgX : X.heap[w.heap.size]? = some (.cells ((repL id N 0).flatMap Idb.cs).toArray 24 (0, 0)) := by rw [← hX, e0]; exact heap_alloc_new w _
  have hf1 := flat_len (f := Idb.cs) (k := 32) Idb.cs_len [id]
  have hfN := flat_len (f := Idb.cs) (k := 32) Idb.cs_len (repL id N 0)
  rw [repL_len id N 0 (by omega)] at hfN
  have hcp := run_copyE (P := Try.prog) X 22 22 3 24 w.heap.size 0 N N ⟨b, o, none⟩ 1 c 32 ((repL id N 0).flatMap Idb.cs).toArray 24 ((List.replicate 1 id).flatMap Idb.cs) under_ids hsz' hgX
    (by rw [flat_len (f := Idb.cs) (k := 32) Idb.cs_len, List.length_replicate]; simp only [Nat.min_def]; split <;> omega)
    (fun j v hj => by
      rw [add_off]
      refine gX.cell (hr j v ?_)
      simpa using hj)
    (by rw [flat_len (f := Idb.cs) (k := 32) Idb.cs_len, List.length_replicate, List.size_toArray, hfN]; omega)
    (fun u hu => by obtain ⟨x, hx, hu⟩ := List.mem_flatMap.1 hu; exact cs_one x u hu)
  have hst := rep_stored (w0 := w) (id := id) 0 1 hgX (by omega) gX (Nat.le_refl _)
  rw [Nat.zero_mul] at hst
  have hmin : Nat.min 1 N = 1 := by simp only [Nat.min_def]; split <;> omega
  rw [hmin, ← hX] at hcp
  rw [← hX] at hst
  obtain ⟨W1, hW1⟩ : ∃ W, (w.alloc (.cells ((List.replicate N idz).flatMap Idb.cs).toArray 24)).setRow w.heap.size (((repL id N 0).flatMap Idb.cs).toArray.toList.take 0 ++ (List.replicate 1 id).flatMap Idb.cs ++ ((repL id N 0).flatMap Idb.cs).toArray.toList.drop (0 + ((List.replicate 1 id).flatMap Idb.cs).length)).toArray = W := ⟨_, rfl⟩
  rw [hW1] at hcp hst
  obtain ⟨hg1, g1⟩ := hst
  have HG1 := Lib.hid hg1
  have G1 := Lib.hid g1
  obtain ⟨g, hgg⟩ : ∃ g, w.heap.size = g := ⟨_, rfl⟩
  rw [hgg] at HG1 hcp
  have hmk : (Instr.makeSlice 22 (.int .i64 (N : Int)) (.int .i64 (N : Int))).run Try.prog w = .ok (.slice (some ⟨g, 0, none⟩) N N) (w.alloc (.cells ((List.replicate N idz).flatMap Idb.cs).toArray 24)) := by rw [make_ids N hN2 w, hgg]
  have HGG := Lib.hid hgg
  clear hX gX e0 hgX hf1 hfN hg1 g1 hmin hW1 hr hv hgg
  go_enter Try.func26, Try.ntmps26
  go_wp2_with (go_at_call 47; refine (mul_1 N (by omega) w).mono ?_; rintro e w' ⟨rfl, hww⟩; rw [hww]; clear hww)
  go_loopw [8] (fun i wr => ∃ n : Nat, 1 ≤ n ∧ n ≤ N ∧ i = .int .i64 n ∧ wr.heap[g]? = some (.cells ((repL id N n).flatMap Idb.cs).toArray 24 (0, 0)) ∧ Grew w wr) (fun i _ => N - (intOf i).toNat)
  case atStart => exact ⟨1, by omega, by omega, rfl, by have := HG1.out; rwa [Nat.zero_add] at this, G1.out⟩
  case round =>
    obtain ⟨n, hn1, hnN, rfl, hg, hG⟩ := hrel
    have HG := Lib.hid hg
    have HW := Lib.hid hG
    have hgs : g < wr.heap.size := (Array.getElem?_eq_some_iff.1 hg).1
    clear hg hG hcp HG1 G1 hmk
    by_cases hlt : n < N
    · have hltI : (n : Int) < (N : Int) := by omega
      have hne : ¬ N = n := by omega
      have hnle : (n : Int) ≤ (N : Int) := by omega
      obtain ⟨m, hm⟩ : ∃ m, Nat.min n (N - n) = m := ⟨_, rfl⟩
      have hm1 : 1 ≤ m ∧ n + m ≤ N ∧ m ≤ n := by rw [← hm]; simp only [Nat.min_def]; split <;> omega
      have hgd : wr.drew.heap[g]? = some (.cells ((repL id N n).flatMap Idb.cs).toArray 24 (0, 0)) := HG.out
      have hfN := flat_len (f := Idb.cs) (k := 32) Idb.cs_len (repL id N n)
      rw [repL_len id N n (by omega)] at hfN
      have hfm := flat_len (f := Idb.cs) (k := 32) Idb.cs_len (List.replicate m id)
      rw [List.length_replicate] at hfm
      have hcp := run_copyE (P := Try.prog) wr.drew 22 22 3 24 g (n * 32) (N - n) (N - n) ⟨g, 0, none⟩ n N 32 ((repL id N n).flatMap Idb.cs).toArray 24 ((List.replicate m id).flatMap Idb.cs) under_ids hsz' hgd
        (by rw [hfm, hm])
        (fun j v hj => by
          rw [add_off, Nat.zero_add]
          have hjl := (List.getElem?_eq_some_iff.1 hj).1
          rw [hfm] at hjl
          unfold World.cell?
          rw [hgd]
          show ((repL id N n).flatMap Idb.cs).toArray[j]? = some v
          rw [List.getElem?_toArray, ← hj]
          unfold repL
          rw [List.flatMap_append, List.getElem?_append_left (by rw [flat_len (f := Idb.cs) (k := 32) Idb.cs_len, List.length_replicate]; omega)]
          have e : List.replicate n id = List.replicate m id ++ List.replicate (n - m) id := by rw [List.replicate_append_replicate]; congr 1; omega
          rw [e, List.flatMap_append, List.getElem?_append_left (by rw [hfm]; omega)])
        (by rw [hfm, List.size_toArray, hfN]; omega)
        (fun u hu => by obtain ⟨x, hx, hu⟩ := List.mem_flatMap.1 hu; exact cs_one x u hu)
      have hst := rep_stored (w0 := w) (id := id) n m hgd hm1.2.1 (HW.out.trans (by repeat (first | with_reducible exact Grew.refl _ | with_reducible apply Grew.alloc | with_reducible apply Grew.grow | with_reducible apply Grew.drew | with_reducible apply Grew.drewN))) (by rw [HGG.out]; exact Nat.le_refl _)
      rw [hm] at hcp
      obtain ⟨W1, hW1⟩ : ∃ W, wr.drew.setRow g (((repL id N n).flatMap Idb.cs).toArray.toList.take (n * 32) ++ (List.replicate m id).flatMap Idb.cs ++ ((repL id N n).flatMap Idb.cs).toArray.toList.drop (n * 32 + ((List.replicate m id).flatMap Idb.cs).length)).toArray = W := ⟨_, rfl⟩
      rw [hW1] at hcp hst
      obtain ⟨hg2, hG2⟩ := hst
      have HG2 := Lib.hid hg2
      have HW2 := Lib.hid hG2
      have HM := Lib.hid hm1
      have hcp' : (Builtin.copy_ #[22, 22] 3 #[.slice (some ⟨g, n * 32, none⟩) (N - n) (N - n), .slice (some ⟨g, 0, none⟩) n N]).run Try.prog wr.drew = .ok (.int .i64 (m : Int)) W1 := hcp
      have hmI : (n : Int) + (m : Int) ≤ 1000 := by omega
      clear hcp hg2 hG2 hW1 hgd hfN hfm hm hm1
      go_wp2
      go_region
      all_goals
        go_wp2
        exact ⟨⟨n + m, by have := HM.out; omega, by have := HM.out; omega, by go_num, HG2.out, HW2.out⟩, by simp only [intOf]; have := HM.out; omega⟩
    · obtain rfl : n = N := by omega
      have hge : ¬ ((n : Int) < (n : Int)) := by omega
      have hg := HG.out
      rw [repL_all] at hg
      have HG' := Lib.hid hg
      clear hg HG hlt
      go_wp2
      go_ret
      refine ⟨_, rfl, ?_, HW.out⟩
      have ho : OwnE 32 Idb.cs wr w.heap.size 24 (.slice (some ⟨g, 0, none⟩) n n) (List.replicate n id) := by
        have hf := flat_len (f := Idb.cs) (k := 32) Idb.cs_len (List.replicate n id)
        rw [List.length_replicate] at hf
        refine ⟨by rw [hf, List.length_replicate], .inr ⟨g, n, _, by rw [List.length_replicate], by rw [HGG.out]; exact Nat.le_refl _, HG'.out, by rw [List.length_replicate]; exact Nat.le_refl _, by simp only [maxLen]; omega, by rw [List.size_toArray, hf], ?_⟩⟩
        rw [List.length_replicate, ← hf]
        exact List.take_length
      have hsh := ho.shows Idb.cs_len
      exact hsh
end Go.Proofs.Ytinkdkcmmjfhoaa
/- tree's Path. -/
namespace Go.Proofs.Ytinkdkcmmjfhoaa
set_option linter.unusedVariables false
set_option linter.unusedSimpArgs false
open Go.RowKit
@[go_sem] theorem oneCell_func (f : Fn) (a b : Array Value) : (Value.func f a b).oneCell' = true := rfl
def pathOk (ls : List Idb) (i : Int) : Bool := decide (ls.length ≤ 64 ∧ 0 ≤ i ∧ i < (ls.length : Int))
def pathOf (ls : List Idb) (i : Int) : List Idb := if pathOk ls i = true then path ls i.toNat else []
theorem pathOk_no {ls : List Idb} {i : Int} (h : ¬ (ls.length ≤ 64 ∧ 0 ≤ i ∧ i < (ls.length : Int))) : pathOk ls i = false ∧ pathOf ls i = [] := by
  have : pathOk ls i = false := decide_eq_false h
  refine ⟨this, ?_⟩
  unfold pathOf
  rw [if_neg (by rw [this]; decide)]
theorem Calls_abs {P : Program} {f : FuncId} {args : Array Value} {X : World} {R : Ending → World → Prop} (h : ∀ Y, Y = X → Calls P f args Y R) : Calls P f args X R := h X rfl
set_option maxRecDepth 100000 in
set_option maxHeartbeats 6400000 in
theorem path_w (ls : List Idb) (i : Int) (v : Value) (w : World) (hv : ShowsI w v ls) :
    Calls Try.prog 28 #[v, .int .i64 i] w fun e w' => ∃ v', e = .returned (.tuple #[v', .bool (pathOk ls i)]) ∧ OwnE 32 Idb.cs w' w.heap.size 24 v' (pathOf ls i) ∧ Grew w w' := by
  obtain ⟨p, c, rfl⟩ := showsI_form hv
  by_cases h1 : 64 < ls.length
  · have hc := pathOk_no (ls := ls) (i := i) (by omega)
    have h1' : (64 : Int) < (ls.length : Int) := by omega
    rw [hc.1, hc.2]
    clear hv hc
    go_enter Try.func28, Try.ntmps28
    go_wp2
    go_ret2
    exact ⟨_, rfl, OwnE.nil _ _ _, (by repeat (first | with_reducible exact Grew.refl _ | with_reducible apply Grew.alloc | with_reducible apply Grew.grow | with_reducible apply Grew.drew | with_reducible apply Grew.drewN))⟩
  by_cases h2 : i < 0
  · have hc := pathOk_no (ls := ls) (i := i) (by omega)
    have h1' : (ls.length : Int) ≤ 64 := by omega
    rw [hc.1, hc.2]
    clear hv hc
    go_enter Try.func28, Try.ntmps28
    go_wp2
    go_ret2
    exact ⟨_, rfl, OwnE.nil _ _ _, (by repeat (first | with_reducible exact Grew.refl _ | with_reducible apply Grew.alloc | with_reducible apply Grew.grow | with_reducible apply Grew.drew | with_reducible apply Grew.drewN))⟩
  by_cases h3 : (ls.length : Int) ≤ i
  · have hc := pathOk_no (ls := ls) (i := i) (by omega)
    have h1' : (ls.length : Int) ≤ 64 := by omega
    have h2' : 0 ≤ i := by omega
    rw [hc.1, hc.2]
    clear hv hc
    go_enter Try.func28, Try.ntmps28
    go_wp2
    go_ret2
    exact ⟨_, rfl, OwnE.nil _ _ _, (by repeat (first | with_reducible exact Grew.refl _ | with_reducible apply Grew.alloc | with_reducible apply Grew.grow | with_reducible apply Grew.drew | with_reducible apply Grew.drewN))⟩
  obtain ⟨j, rfl⟩ : ∃ j : Nat, i = (j : Int) := ⟨i.toNat, by omega⟩
  have hok : pathOk ls j = true := decide_eq_true ⟨by omega, by omega, by omega⟩
  have hof : pathOf ls j = path ls j := by unfold pathOf; rw [if_pos hok]; rfl
  rw [hok, hof]
  have h1' : (ls.length : Int) ≤ 64 := by omega
  have h3' : (j : Int) < (ls.length : Int) := by omega
  have h4 : ¬ (ls.length : Int) ≤ (j : Int) := by omega
  have HV := Lib.hid hv
  have HJ := Lib.hid (And.intro h1 h3)
  clear hv hok hof h1 h2 h3
  have hst : ∀ (t1 t2 : TypeId), (store ⟨w.heap.size + 1, 0, none⟩ (.func (.func 49) #[] #[.pointer (some ⟨w.heap.size + 1, 0, none⟩), .pointer (some ⟨w.heap.size, 0, none⟩)])).run Try.prog ((w.alloc (.cells #[.slice none 0 0] t1)).alloc (.cells #[.nilFunc] t2)) = .ok () ((w.alloc (.cells #[.slice none 0 0] t1)).alloc (.cells #[.func (.func 49) #[] #[.pointer (some ⟨w.heap.size + 1, 0, none⟩), .pointer (some ⟨w.heap.size, 0, none⟩)]] t2)) := fun t1 t2 => by
    obtain ⟨X, hX⟩ : ∃ X, w.alloc (.cells #[.slice none 0 0] t1) = X := ⟨_, rfl⟩
    have hs : w.heap.size + 1 = X.heap.size := by rw [← hX]; simp
    rw [hX, hs]
    have r : (X.alloc (.cells #[.nilFunc] t2)).rowAt X.heap.size = #[.nilFunc] := rowAt_alloc_at _ _ _ _ _ rfl
    have fr : (X.alloc (.cells #[.nilFunc] t2)).rowFree X.heap.size = true := by simp [go_sem]
    have cc : (X.alloc (.cells #[.nilFunc] t2)).cell? ⟨X.heap.size, 0, none⟩ = some .nilFunc := by rw [cell_rowAt, r]; rfl
    have cf : (X.alloc (.cells #[.nilFunc] t2)).frozen? ⟨X.heap.size, 0, none⟩ = false := by
      have h3 := frozen_setRow_free _ _ ((X.alloc (.cells #[.nilFunc] t2)).rowAt X.heap.size) fr 0
      rwa [setRow_same' _ _ fr] at h3
    rw [run_store _ _ _ _ _ rfl, cc]
    simp only [cf, Bool.false_eq_true, if_false]
    rw [setCell_row1 fr r, setRow_alloc_at _ _ _ _ _ _ rfl]
  go_enter Try.func28, Try.ntmps28
  go_wp2_with (go_at_call 49; refine stop_of ?_)
  unfold Stop
  refine Calls_abs ?_
  intro A hA
  have sA : A.heap.size = w.heap.size + 2 := by rw [hA]; simp
  have gA : Grew w A := by rw [hA]; exact (by repeat (first | with_reducible exact Grew.refl _ | with_reducible apply Grew.alloc | with_reducible apply Grew.grow | with_reducible apply Grew.drew | with_reducible apply Grew.drewN))
  have r0 : A.rowAt w.heap.size = #[.slice none 0 0] := by rw [hA]; simp [go_sem]
  have f0 : A.rowFree w.heap.size = true := by rw [hA]; simp [go_sem]
  have c1 : A.cell? ⟨w.heap.size + 1, 0, none⟩ = some (walkFn (w.heap.size + 1) w.heap.size) := by
    rw [cell_rowAt, hA, rowAt_alloc_at _ _ _ _ _ (by simp)]; rfl
  have i0 : Grew (A.setRow w.heap.size #[.slice none 0 0]) A := by
    have h3 := setRow_same' A w.heap.size f0
    rw [r0] at h3
    rw [h3]
    exact Grew.refl _
  refine (walk_w w A (w.heap.size + 1) w.heap.size gA (Nat.le_refl _) (by omega) (by omega) (by omega) f0 c1 ls.length ls j _ A (.slice none 0 0) [] (Nat.le_refl _) (by have := HJ.out; omega) (by have := HJ.out; omega) (by omega) (by have := HJ.out; simp; omega) HV.out i0 (OwnE.nil _ _ _)).mono ?_
  rintro e W' ⟨⟨u, rfl⟩, ov, hg, ho⟩
  have co : W'.cell? ⟨w.heap.size, 0, none⟩ = some ov := by
    rw [cell_rowAt, Grew.rowAt hg _ (by rw [setRow_size]; omega), rowAt_setRow_free _ _ _ f0]; rfl
  have gw : Grew w W' := (Grew.setRow_new gA _ _ (Nat.le_refl _)).trans hg
  rw [List.nil_append] at ho
  have HO := Lib.hid (ho.base gA.size)
  have GW := Lib.hid gw
  clear hg ho gw i0 c1 f0 r0 gA hA hst
  simp only []
  go_wp2
  go_ret2
  exact ⟨_, rfl, HO.out, GW.out⟩
end Go.Proofs.Ytinkdkcmmjfhoaa
/- The document's pow, turn and numbers. -/
namespace Go.Proofs.Ytinkdkcmmjfhoaa
set_option linter.unusedVariables false
set_option linter.unusedSimpArgs false
open Go.RowKit
/-- The cells of words. -/
def wsl (l : List (BitVec 32)) : List Value := l.map fun x => Value.int .u32 (u x)
theorem wsl_len (l : List (BitVec 32)) : (wsl l).length = l.length := by simp [wsl]
theorem wsl_append (l m : List (BitVec 32)) : wsl (l ++ m) = wsl l ++ wsl m := by simp [wsl]
theorem wsl_one (l : List (BitVec 32)) : ∀ x ∈ wsl l, x.oneCell' = true := by
  intro x hx
  obtain ⟨c, _, rfl⟩ := List.mem_map.1 hx
  rfl
theorem wsl_at (l : List (BitVec 32)) (i : Nat) (h : i < (wsl l).length) : (wsl l)[i] = .int .u32 (u (wordAt l i)) := by
  rw [wordAt_eq l i (by rwa [wsl_len] at h)]; simp [wsl]
theorem under_ws : Try.prog.underlying 90 = some (.slice 58) := by kernel_rfl
theorem info_w : ∃ i, Try.prog.info? 58 = some i ∧ i.zero = some (.int .u32 0) ∧ i.size = 1 ∧ i.bytes = 4 := by
  refine ⟨_, rfl, ?_, ?_, ?_⟩ <;> kernel_rfl
set_option maxRecDepth 100000 in
set_option maxHeartbeats 1600000 in
theorem rpow_w (n : Nat) (hn : n < 32) (w : World) :
    Calls Try.prog 77 #[.int .i64 (n : Int)] w fun e w' => e = .returned (.int .u32 ((2 ^ n : Nat) : Int)) ∧ Grew w w' := by
  go_enter Try.func77, Try.ntmps77
  go_wp2
  go_loopw [4, 3] (fun i p wr => ∃ k : Nat, k ≤ n ∧ i = .int .i64 k ∧ p = .int .u32 ((2 ^ k : Nat) : Int) ∧ wr = w) (fun i _ _ => n - (intOf i).toNat)
  case atStart => exact ⟨0, by omega, rfl, rfl, rfl⟩
  case round =>
    obtain ⟨k, hk, rfl, rfl, rfl⟩ := hrel
    by_cases h : k < n
    · have hlt : (k : Int) < (n : Int) := by omega
      have hp : 2 ^ (k + 1) ≤ 2 ^ 31 := Nat.pow_le_pow_right (by omega) (by omega)
      have hs : 2 ^ (k + 1) = 2 * 2 ^ k := by rw [Nat.pow_succ]; omega
      obtain ⟨a, ha⟩ : ∃ a, 2 ^ k = a := ⟨_, rfl⟩
      rw [ha] at hs ⊢
      have e6 : IntKind.u32.wrap (2 * (a : Int)) = ((2 ^ (k + 1) : Nat) : Int) := by
        rw [hs] at hp ⊢
        show (2 * (a : Int)) % 4294967296 = _
        omega
      clear hk h hp hs ha
      go_wp2
      exact ⟨⟨k + 1, by omega, by go_num, rfl, trivial⟩, by simp only [intOf]; omega⟩
    · obtain rfl : k = n := by omega
      have hge : ¬ ((k : Int) < (k : Int)) := by omega
      clear hk h hn
      go_wp2
      go_ret
      exact ⟨rfl, Grew.refl _⟩
theorem turn_u (x : BitVec 32) (n : Nat) (h1 : 1 ≤ n) (h2 : n < 32) : IntKind.u32.wrap (u x / ((2 ^ n : Nat) : Int) + IntKind.u32.wrap (u x * ((2 ^ (32 - n) : Nat) : Int))) = u (rr n x) := by
  have hr := rot_u x (32 - n) (by omega)
  rw [show 32 - (32 - n) = n by omega] at hr
  rw [Int.natCast_pow, Int.natCast_pow]
  show IntKind.u32.wrap (u x / 2 ^ n + IntKind.u32.wrap (u x * 2 ^ (32 - n))) = u (x.rotateLeft (32 - n))
  rw [← hr]
  have hx := u_bd x
  obtain ⟨a, ha⟩ : ∃ a : Nat, u x = a := ⟨x.toNat, rfl⟩
  rw [ha] at hx ⊢
  have e1 : IntKind.u32.wrap ((a : Int) * 2 ^ (32 - n)) = ((a % 2 ^ n * 2 ^ (32 - n) : Nat) : Int) := by
    show ((a : Int) * 2 ^ (32 - n)) % 4294967296 = _
    have hpp : 2 ^ n * 2 ^ (32 - n) = 4294967296 := by rw [← Nat.pow_add, show n + (32 - n) = 32 by omega]
    have hm : (a * 2 ^ (32 - n)) % (2 ^ n * 2 ^ (32 - n)) = a % 2 ^ n * 2 ^ (32 - n) := Nat.mul_mod_mul_right _ _ _
    rw [hpp] at hm
    rw [← hm, Int.natCast_emod, Int.natCast_mul, Int.natCast_pow]
    rfl
  have e2 : (a : Int) / 2 ^ n = ((a / 2 ^ n : Nat) : Int) := by rw [Int.natCast_ediv, Int.natCast_pow]; rfl
  have hpp : 2 ^ n * 2 ^ (32 - n) = 4294967296 := by rw [← Nat.pow_add, show n + (32 - n) = 32 by omega]
  have hq1 : a / 2 ^ n < 2 ^ (32 - n) := by
    rw [Nat.div_lt_iff_lt_mul (Nat.pow_pos (by omega)), Nat.mul_comm, hpp]; omega
  have hq2 : a % 2 ^ n * 2 ^ (32 - n) + 2 ^ (32 - n) ≤ 4294967296 := by
    have := Nat.mul_le_mul_right (2 ^ (32 - n)) (show a % 2 ^ n + 1 ≤ 2 ^ n from Nat.mod_lt _ (Nat.pow_pos (by omega)))
    rw [hpp, Nat.add_mul, Nat.one_mul] at this
    exact this
  rw [e1, e2]
  have hor := or_add (a % 2 ^ n) (a / 2 ^ n) (32 - n) hq1
  obtain ⟨p, hp⟩ : ∃ p, a % 2 ^ n * 2 ^ (32 - n) = p := ⟨_, rfl⟩
  obtain ⟨q, hq⟩ : ∃ q, a / 2 ^ n = q := ⟨_, rfl⟩
  obtain ⟨r, hr2⟩ : ∃ r, 2 ^ (32 - n) = r := ⟨_, rfl⟩
  rw [hp, hq] at hor
  rw [hp, hq]
  rw [hp, hr2] at hq2
  rw [hq, hr2] at hq1
  have hr3 : 0 < r := by rw [← hr2]; exact Nat.pow_pos (by omega)
  have hr4 : r ≤ 4294967296 := by omega
  rw [or_u32_nat _ _ (by omega) (by omega), hor]
  show ((q : Int) + (p : Int)) % 4294967296 = _
  omega
set_option maxRecDepth 100000 in
set_option maxHeartbeats 1600000 in
theorem rturn_w (x : BitVec 32) (n : Nat) (h1 : 1 ≤ n) (h2 : n < 32) (w : World) :
    Calls Try.prog 76 #[.int .u32 (u x), .int .i64 (n : Int)] w fun e w' => e = .returned (.int .u32 (u (rr n x))) ∧ Grew w w' := by
  have ht := turn_u x n h1 h2
  have hc : (32 : Int) - (n : Int) = ((32 - n : Nat) : Int) := by omega
  have p1 := fun w => rpow_w n h2 w
  have p2 := fun w => rpow_w (32 - n) (by omega) w
  obtain ⟨a, ha⟩ : ∃ a : Nat, 2 ^ n = a := ⟨_, rfl⟩
  obtain ⟨b, hb⟩ : ∃ b : Nat, 2 ^ (32 - n) = b := ⟨_, rfl⟩
  obtain ⟨m, hm⟩ : ∃ m : Nat, 32 - n = m := ⟨_, rfl⟩
  have ha1 : 1 ≤ a := by rw [← ha]; exact Nat.one_le_two_pow
  have ha2 : (a : Int) ≠ 0 := by omega
  have ha3 : 1 ≤ (a : Int) := by omega
  have hx := u_bd x
  have hx1 := hx.1
  have hx2 : u x ≤ 4294967295 := by omega
  rw [hm] at hc p2
  rw [ha] at p1 ht
  rw [hm] at hb
  rw [hm, hb] at ht
  rw [hb] at p2
  have ht' : (u x / (a : Int) + u x * (b : Int) % 4294967296) % 4294967296 = u (rr n x) := ht
  have P1 := Lib.hid p1
  have P2 := Lib.hid p2
  clear p1 p2 ha hb hm h1 h2 hx ha1 ht
  go_enter Try.func76, Try.ntmps76
  go_wp2
  refine wp_region_flow (by kernel_rfl) ?_
  intro δf
  apply wpFlow_quiets [0,1,2,3,4,5,6] (by decide +kernel) (by decide +kernel) (by kernel_rfl) (by intro _ _ _ d _ h; cases d <;> exact h) _
  · intro A hA δ'
    simp only [pickOps_cons, pickOps_nil, pick1_zero, pick1_succ]
    repeat (go_big_quiet_step ((go_at_call 77; exact Calls.pure_of_g3 (P1.out _))))
    exact wpQuiet_nil hA.out.symm
  clear P1
  apply wpFlow_quiets [7,8,9,10] (by decide +kernel) (by decide +kernel) (by kernel_rfl) (by intro _ _ _ d _ h; cases d <;> exact h) _
  · intro A hA δ'
    simp only [pickOps_cons, pickOps_nil, pick1_zero, pick1_succ]
    repeat (go_big_quiet_step ((go_at_call 77; exact Calls.pure_of_g3 (P2.out _))))
    exact wpQuiet_nil hA.out.symm
  refine wpFlow_end (by decide +kernel) (by kernel_rfl) ?_
  intro δf
  go_wp2
  go_ret
  exact ⟨congrArg (fun z => Ending.returned (.int .u32 z)) ht', (by repeat (first | with_reducible exact Grew.refl _ | with_reducible apply Grew.alloc | with_reducible apply Grew.grow | with_reducible apply Grew.drew | with_reducible apply Grew.drewN))⟩
theorem rturn_i (x : BitVec 32) (n : Int) (hn : rotI n = true) (w : World) :
    Calls Try.prog 76 #[.int .u32 (u x), .int .i64 n] w fun e w' => e = .returned (.int .u32 (u (rr n.toNat x))) ∧ Grew w w' := by
  have h := of_decide_eq_true hn
  obtain ⟨m, rfl⟩ : ∃ m : Nat, n = m := ⟨n.toNat, by omega⟩
  exact rturn_w x m (by omega) (by omega) w
end Go.Proofs.Ytinkdkcmmjfhoaa
/- The document's numbers, words. -/
namespace Go.Proofs.Ytinkdkcmmjfhoaa
set_option linter.unusedVariables false
set_option linter.unusedSimpArgs false
open Go.RowKit
theorem wsl_get (l : List (BitVec 32)) (i : Nat) (h : i < l.length) : (wsl l)[i]? = some (.int .u32 (u (wordAt l i))) := by rw [wordAt_eq l i h]; simp [wsl, h]
theorem be32_sum (a b c d : Nat) (ha : a < 256) (hb : b < 256) (hc : c < 256) (hd : d < 256) : (16777216 : Int) * a + 65536 * b + 256 * c + d = u (be32 a b c d) := by
  unfold u be32
  rw [BitVec.toNat_ofNat]
  omega
set_option maxRecDepth 100000 in
set_option maxHeartbeats 3200000 in
theorem rwords_w (l : List Nat) (hl : ∀ c ∈ l, c < 256) (bB o c : Nat) (w : World) (hb : ∀ j, j < 64 → w.cell? ⟨bB, o + j, none⟩ = some (.int .u8 (byteAt l j : Nat))) :
    Calls Try.prog 69 #[.slice (some ⟨bB, o, none⟩) 64 c] w fun e w' => ∃ v, e = .returned v ∧ OwnR w' w.heap.size 58 v (wsl (sched l 64)) ∧ Grew w w' := by
  obtain ⟨iw, hi, hz, hsz, hby⟩ := info_w
  have l2 : bB < w.heap.size := World.block_lt_of_cell? w _ (hb 0 (by omega))
  have HB := Lib.hid hb
  have HL := Lib.hid (fun i => byteAt_lt l hl i)
  clear hb hl
  go_enter Try.func69, Try.ntmps69
  go_wp2
  go_loopw [4, 3] (fun n v wr => ∃ k : Nat, k ≤ 16 ∧ n = .int .i64 k ∧ OwnR wr w.heap.size 58 v (wsl (sched l k)) ∧ Grew w wr) (fun n _ _ => 16 - (intOf n).toNat)
  case atStart => exact ⟨0, by omega, rfl, OwnR.nil _ _ _, Grew.refl _⟩
  case round =>
    obtain ⟨k, hk, rfl, ho, hg⟩ := hrel
    have HO := Lib.hid ho
    have HG := Lib.hid hg
    have hsz0 := hg.size
    clear ho hg
    by_cases hn : k < 16
    · have hlt : (k : Int) < 16 := by omega
      have c0 := HG.out.cell (HB.out (4 * k) (by omega))
      have c1 := HG.out.cell (HB.out (4 * k + 1) (by omega))
      have c2 := HG.out.cell (HB.out (4 * k + 2) (by omega))
      have c3 := HG.out.cell (HB.out (4 * k + 3) (by omega))
      have a0 := HL.out (4 * k)
      have a1 := HL.out (4 * k + 1)
      have a2 := HL.out (4 * k + 2)
      have a3 := HL.out (4 * k + 3)
      have o4 := be32_sum _ _ _ _ a0 a1 a2 a3
      have hlw : bB < wr.heap.size := by omega
      have hsl : (wsl (sched l k)).length = k := by rw [wsl_len, sched_len]
      have hnext : wsl (sched l (k + 1)) = wsl (sched l k) ++ [.int .u32 (u (be32 (byteAt l (4 * k)) (byteAt l (4 * k + 1)) (byteAt l (4 * k + 2)) (byteAt l (4 * k + 3))))] := by
        rw [sched, if_pos hn, wsl_append]; rfl
      obtain ⟨y0, hy0⟩ : ∃ y, byteAt l (4 * k) = y := ⟨_, rfl⟩
      obtain ⟨y1, hy1⟩ : ∃ y, byteAt l (4 * k + 1) = y := ⟨_, rfl⟩
      obtain ⟨y2, hy2⟩ : ∃ y, byteAt l (4 * k + 2) = y := ⟨_, rfl⟩
      obtain ⟨y3, hy3⟩ : ∃ y, byteAt l (4 * k + 3) = y := ⟨_, rfl⟩
      rw [hy0] at c0 a0
      rw [hy1] at c1 a1
      rw [hy2] at c2 a2
      rw [hy3] at c3 a3
      rw [hy0, hy1, hy2, hy3] at o4 hnext
      obtain ⟨z, hzz⟩ : ∃ z, be32 y0 y1 y2 y3 = z := ⟨_, rfl⟩
      rw [hzz] at o4 hnext
      have HN := Lib.hid hnext
      clear hy0 hy1 hy2 hy3 hzz hnext hk hn
      go_wp2
      refine wp_region_flowX [35,36] (by kernel_rfl) ?_
      intro δf
      apply wpFlowX_quiets [0,1,2,3,4,5,6,7,8,9,10,11,12,13,14,15,16,17,18,19,20,21,22,23,24,25,26,27,28,29,30,31,32,33] (by decide +kernel) (by decide +kernel) (by kernel_rfl) (by intro _ _ _ d _ h; cases d <;> exact h) _
      · intro A hA δ'
        simp only [pickOps_cons, pickOps_nil, pick1_zero, pick1_succ]
        repeat (go_big_quiet_step ((fail)))
        exact wpQuiet_nil hA.out.symm
      refine wpFlowX_one 34 (by decide +kernel) (by kernel_rfl) (by decide +kernel) (by decide +kernel) ?_
      simp only [pickOps_cons, pickOps_nil, pick1_zero, pick1_succ]
      intro δf
      go_wp2_with (fail)
      refine ⟨(by first | assumption | (simp only [grow_grow, Array.append_assoc]; assumption) | exact Grew.refl _ | (simp only [grow_grow, Array.append_assoc]; exact (by repeat (first | with_reducible exact Grew.refl _ | with_reducible apply Grew.alloc | with_reducible apply Grew.grow | with_reducible apply Grew.drew | with_reducible apply Grew.drewN))) | exact (by repeat (first | with_reducible exact Grew.refl _ | with_reducible apply Grew.alloc | with_reducible apply Grew.grow | with_reducible apply Grew.drew | with_reducible apply Grew.drewN))), ?_⟩
      refine wpFlowX_esc 35 (by decide +kernel) (by kernel_rfl) (by decide +kernel) (by decide +kernel) ?_
      simp only [pickOps_cons, pickOps_nil, pick1_zero, pick1_succ]
      intro δf
      refine wpList_appends rfl _ _ _ rfl _ iw _ 4 under_ws hi hz hsz hby rfl w _ _ _ rfl rfl _ [.int .u32 (u z)] (HG.out.trans (by repeat (first | with_reducible exact Grew.refl _ | with_reducible apply Grew.alloc | with_reducible apply Grew.grow | with_reducible apply Grew.drew | with_reducible apply Grew.drewN))) (HO.out.grew (by repeat (first | with_reducible exact Grew.refl _ | with_reducible apply Grew.alloc | with_reducible apply Grew.grow | with_reducible apply Grew.drew | with_reducible apply Grew.drewN))) (by first | exact (shows_one_g _ _ _ _ _).grew (by repeat (first | with_reducible exact Grew.refl _ | with_reducible apply Grew.alloc | with_reducible apply Grew.grow | with_reducible apply Grew.drew | with_reducible apply Grew.drewN)) | exact (shows_one_g2 _ _ _ _ _ _).grew (by repeat (first | with_reducible exact Grew.refl _ | with_reducible apply Grew.alloc | with_reducible apply Grew.grow | with_reducible apply Grew.drew | with_reducible apply Grew.drewN))) (by simp [Value.oneCell']) (by rw [hsl]; simp only [maxLen, List.length_cons, List.length_nil]; omega) (by rw [hsl]; simp only [List.length_cons, List.length_nil]; omega) ?_
      intro v' w2' ho' hg'
      rw [← HN.out] at ho'
      refine wpList_nil_then ?_
      refine wpAny_one 36 (by decide +kernel) (by kernel_rfl) (by decide +kernel) ?_
      simp only [pickOps_cons, pickOps_nil, pick1_zero, pick1_succ]
      go_wp2_with (fail)
      refine wpAny_end (by decide +kernel) (by kernel_rfl) ?_
      go_wp2
      exact ⟨⟨k + 1, by omega, by go_num, ho', hg'⟩, by simp only [intOf]; omega⟩
    · obtain rfl : k = 16 := by omega
      clear hk hn
      go_wp2
      go_loopw [5, 3] (fun n v wr2 => ∃ k : Nat, 16 ≤ k ∧ k ≤ 64 ∧ n = .int .i64 k ∧ OwnR wr2 w.heap.size 58 v (wsl (sched l k)) ∧ Grew w wr2) (fun n _ _ => 64 - (intOf n).toNat)
      case atStart => exact ⟨16, by omega, by omega, rfl, HO.out, HG.out⟩
      case round =>
        clear HO HG
        obtain ⟨k, hk0, hk, rfl, ho, hg⟩ := hrel
        have HO := Lib.hid ho
        have HG := Lib.hid hg
        have hsz1 := hg.size
        clear hsz0
        clear ho hg
        by_cases hn : k < 64
        · have hlt : (k : Int) < 64 := by omega
          have hsl : (wsl (sched l k)).length = k := by rw [wsl_len, sched_len]
          obtain ⟨g, cap, hv, hgb, hgs, hgc, hgm, hcell⟩ := own_form HO.out (by omega)
          rw [hsl] at hv hgc hcell
          subst hv
          have d1 := hcell (k - 15) (by omega)
          have d2 := hcell (k - 2) (by omega)
          have d3 := hcell (k - 16) (by omega)
          have d4 := hcell (k - 7) (by omega)
          rw [wsl_get _ _ (by rw [sched_len]; omega)] at d1 d2 d3 d4
          have hnext : wsl (sched l (k + 1)) = wsl (sched l k) ++ [.int .u32 (u (schedN (sched l k) k))] := by
            rw [sched, if_neg (by omega), wsl_append]; rfl
          unfold schedN at hnext
          obtain ⟨x1, hx1⟩ : ∃ y, wordAt (sched l k) (k - 15) = y := ⟨_, rfl⟩
          obtain ⟨x2, hx2⟩ : ∃ y, wordAt (sched l k) (k - 2) = y := ⟨_, rfl⟩
          obtain ⟨x3, hx3⟩ : ∃ y, wordAt (sched l k) (k - 16) = y := ⟨_, rfl⟩
          obtain ⟨x4, hx4⟩ : ∃ y, wordAt (sched l k) (k - 7) = y := ⟨_, rfl⟩
          rw [hx1] at d1
          rw [hx2] at d2
          rw [hx3] at d3
          rw [hx4] at d4
          rw [hx1, hx2, hx3, hx4] at hnext
          have hsum : x3 + x4 + (rr 7 x1 ^^^ rr 18 x1 ^^^ x1 >>> 3) + (rr 17 x2 ^^^ rr 19 x2 ^^^ x2 >>> 10) = x3 + (rr 7 x1 ^^^ rr 18 x1 ^^^ x1 >>> 3) + x4 + (rr 17 x2 ^^^ rr 19 x2 ^^^ x2 >>> 10) := by
            rw [BitVec.add_assoc x3 x4, BitVec.add_comm x4, ← BitVec.add_assoc]
          rw [hsum] at hnext
          have HN := Lib.hid hnext
          have i1 : (k : Int) - 15 = ((k - 15 : Nat) : Int) := by omega
          have i2 : (k : Int) - 2 = ((k - 2 : Nat) : Int) := by omega
          have i3 : (k : Int) - 16 = ((k - 16 : Nat) : Int) := by omega
          have i4 : (k : Int) - 7 = ((k - 7 : Nat) : Int) := by omega
          have j1 : ((k - 15 : Nat) : Int) < (k : Int) := by omega
          have j2 : ((k - 2 : Nat) : Int) < (k : Int) := by omega
          have j3 : ((k - 16 : Nat) : Int) < (k : Int) := by omega
          have j4 : ((k - 7 : Nat) : Int) < (k : Int) := by omega
          obtain ⟨n1, hn1⟩ : ∃ n, k - 15 = n := ⟨_, rfl⟩
          obtain ⟨n2, hn2⟩ : ∃ n, k - 2 = n := ⟨_, rfl⟩
          obtain ⟨n3, hn3⟩ : ∃ n, k - 16 = n := ⟨_, rfl⟩
          obtain ⟨n4, hn4⟩ : ∃ n, k - 7 = n := ⟨_, rfl⟩
          rw [hn1] at d1 i1 j1
          rw [hn2] at d2 i2 j2
          rw [hn3] at d3 i3 j3
          rw [hn4] at d4 i4 j4
          have hkI : (k : Int) ≤ 64 := by omega
          have hkl : k < 64 := hn
          have bx1 := (u_bd x1).1
          have bx2 := (u_bd x2).1
          have by1 : u x1 ≤ 4294967295 := by have := (u_bd x1).2; omega
          have by2 : u x2 ≤ 4294967295 := by have := (u_bd x2).2; omega
          clear hn1 hn2 hn3 hn4 hx1 hx2 hx3 hx4 hsum hnext hcell hk hk0 hn
          go_wp2
          first | refine wp_region_pure_lit_g (by kernel_rfl) (by kernel_rfl) ?_ | refine wp_region_pure_lit (by kernel_rfl) (by kernel_rfl) ?_
          repeat (go_big_quiet_step ((go_at_call 76; exact Calls.pure_of (rturn_i _ _ (by decide) _))))
          refine wpQuiet_nil ?_
          intro _ hw'
          obtain ⟨δ1, hw''⟩ := hw'
          subst hw''
          go_wp2
          first | refine wp_region_pure_lit_g (by kernel_rfl) (by kernel_rfl) ?_ | refine wp_region_pure_lit (by kernel_rfl) (by kernel_rfl) ?_
          repeat (go_big_quiet_step ((go_at_call 76; exact Calls.pure_of (rturn_i _ _ (by decide) _))))
          refine wpQuiet_nil ?_
          intro _ hw'
          obtain ⟨δ1, hw''⟩ := hw'
          subst hw''
          go_wp2
          refine wp_region_flowX [17,18] (by kernel_rfl) ?_
          intro δf
          apply wpFlowX_quiets [0,1,2,3,4,5,6,7,8,9,10,11,12,13,14,15] (by decide +kernel) (by decide +kernel) (by kernel_rfl) (by intro _ _ _ d _ h; cases d <;> exact h) _
          · intro A hA δ'
            simp only [pickOps_cons, pickOps_nil, pick1_zero, pick1_succ]
            repeat (go_big_quiet_step ((fail)))
            exact wpQuiet_nil hA.out.symm
          refine wpFlowX_one 16 (by decide +kernel) (by kernel_rfl) (by decide +kernel) (by decide +kernel) ?_
          simp only [pickOps_cons, pickOps_nil, pick1_zero, pick1_succ]
          intro δf
          go_wp2_with (fail)
          refine ⟨(by first | assumption | (simp only [grow_grow, Array.append_assoc]; assumption) | exact Grew.refl _ | (simp only [grow_grow, Array.append_assoc]; exact (by repeat (first | with_reducible exact Grew.refl _ | with_reducible apply Grew.alloc | with_reducible apply Grew.grow | with_reducible apply Grew.drew | with_reducible apply Grew.drewN))) | exact (by repeat (first | with_reducible exact Grew.refl _ | with_reducible apply Grew.alloc | with_reducible apply Grew.grow | with_reducible apply Grew.drew | with_reducible apply Grew.drewN))), ?_⟩
          refine wpFlowX_esc 17 (by decide +kernel) (by kernel_rfl) (by decide +kernel) (by decide +kernel) ?_
          simp only [pickOps_cons, pickOps_nil, pick1_zero, pick1_succ]
          intro δf
          refine wpList_appends rfl _ _ _ rfl _ iw _ 4 under_ws hi hz hsz hby rfl w _ _ _ rfl rfl _ [.int .u32 (u (x3 + (rr 7 x1 ^^^ rr 18 x1 ^^^ x1 >>> 3) + x4 + (rr 17 x2 ^^^ rr 19 x2 ^^^ x2 >>> 10)))] (HG.out.trans (by repeat (first | with_reducible exact Grew.refl _ | with_reducible apply Grew.alloc | with_reducible apply Grew.grow | with_reducible apply Grew.drew | with_reducible apply Grew.drewN))) (HO.out.grew (by repeat (first | with_reducible exact Grew.refl _ | with_reducible apply Grew.alloc | with_reducible apply Grew.grow | with_reducible apply Grew.drew | with_reducible apply Grew.drewN))) ((shows_one_g _ _ _ _ _).grew (by repeat (first | with_reducible exact Grew.refl _ | with_reducible apply Grew.alloc | with_reducible apply Grew.grow | with_reducible apply Grew.drew | with_reducible apply Grew.drewN))) (by simp [Value.oneCell']) (by rw [hsl]; simp only [maxLen, List.length_cons, List.length_nil]; omega) (by rw [hsl]; simp only [List.length_cons, List.length_nil]; omega) ?_
          intro v' w2' ho' hg'
          rw [← HN.out] at ho'
          refine wpList_nil_then ?_
          refine wpAny_one 18 (by decide +kernel) (by kernel_rfl) (by decide +kernel) ?_
          simp only [pickOps_cons, pickOps_nil, pick1_zero, pick1_succ]
          go_wp2_with (fail)
          refine wpAny_end (by decide +kernel) (by kernel_rfl) ?_
          go_wp2
          refine ⟨?_, ?_⟩
          · iterate 66 apply Exists.intro
            refine And.intro ?_ rfl
            exact ⟨k + 1, by omega, by omega, by go_num, ho', hg'⟩
          · show 64 - (intOf (.int .i64 ((k : Int) + 1))).toNat < 64 - (intOf (.int .i64 (k : Int))).toNat
            simp only [intOf]; omega
        · obtain rfl : k = 64 := by omega
          go_wp2
          go_ret
          exact ⟨_, rfl, HO.out, HG.out⟩
end Go.Proofs.Ytinkdkcmmjfhoaa
/- The document's rounds. -/
namespace Go.Proofs.Ytinkdkcmmjfhoaa
set_option linter.unusedVariables false
set_option linter.unusedSimpArgs false
open Go.RowKit
theorem not_u (x : BitVec 32) : (4294967295 : Int) - u x = u (~~~ x) := by
  unfold u
  rw [BitVec.toNat_not]
  have := x.isLt
  omega
theorem maj_or (a b c : BitVec 32) : (a &&& b ||| a &&& c ||| b &&& c) = (a &&& b ^^^ a &&& c ^^^ b &&& c) := by
  apply BitVec.eq_of_getLsbD_eq
  intro i _
  simp only [BitVec.getLsbD_or, BitVec.getLsbD_and, BitVec.getLsbD_xor]
  cases a.getLsbD i <;> cases b.getLsbD i <;> cases c.getLsbD i <;> rfl
/-- The words, to 'k' of which what was is added. -/
def addk (s v : List (BitVec 32)) (k : Nat) : List (BitVec 32) := (List.range 8).map fun i => if i < k then wordAt s i + wordAt v i else wordAt v i
theorem addk_len (s v : List (BitVec 32)) (k : Nat) : (addk s v k).length = 8 := by simp [addk]
theorem addk_0 (s v : List (BitVec 32)) (h : v.length = 8) : addk s v 0 = v := by
  apply List.ext_getElem
  · simp [addk, h]
  · intro i h1 h2
    simp only [addk, List.getElem_map, List.getElem_range, if_neg (Nat.not_lt_zero i), wordAt_eq v i h2]
theorem addk_at (s v : List (BitVec 32)) (k : Nat) (h : k < 8) : wordAt (addk s v k) k = wordAt v k := by
  rw [wordAt_eq _ _ (by rw [addk_len]; exact h)]
  simp [addk]
theorem addk_set (s v : List (BitVec 32)) (k : Nat) : (addk s v k).set k (wordAt v k + wordAt s k) = addk s v (k + 1) := by
  apply List.ext_getElem
  · simp [addk]
  · intro i h1 h2
    simp only [addk, List.getElem_set, List.getElem_map, List.getElem_range]
    split
    · subst_vars; rw [if_pos (by omega), BitVec.add_comm]
    · split
      · rw [if_pos (by omega)]
      · rw [if_neg (by omega)]
theorem addk_8 (s : List (BitVec 32)) (l : List Nat) : addk s (rnds s (sched l 64) 64) 8 = compress s l := by
  unfold addk compress
  apply List.map_congr_left
  intro i hi
  rw [if_pos (by simpa using hi)]
theorem rnumbers_w (w : World) : Calls Try.prog 75 #[] w fun e w' => ∃ g, e = .returned (.slice (some ⟨g, 0, none⟩) 64 64) ∧ g < w'.heap.size ∧ (∀ j, j < 64 → w'.cell? ⟨g, j, none⟩ = some (.int .u32 (u (wordAt ks j)))) ∧ Grew w w' := by
  go_enter Try.func75, Try.ntmps75
  go_wp2
  go_ret
  refine ⟨w.heap.size, rfl, by simp, fun j hj => ?_, (by repeat (first | with_reducible exact Grew.refl _ | with_reducible apply Grew.alloc | with_reducible apply Grew.grow | with_reducible apply Grew.drew | with_reducible apply Grew.drewN))⟩
  have h := own_alloc w w.heap.size 58 (wsl ks) (Nat.le_refl _) (by rw [wsl_len, ks_len]; decide)
  have h2 := own_cell h j (by rw [wsl_len, ks_len]; exact hj)
  rw [wsl_at] at h2
  exact h2
theorem txr (v : List (BitVec 32)) (k w : BitVec 32) : wordAt v 7 + (rr 6 (wordAt v 4) ^^^ rr 11 (wordAt v 4) ^^^ rr 25 (wordAt v 4)) + (wordAt v 4 &&& wordAt v 5 ^^^ ~~~ wordAt v 4 &&& wordAt v 6) + k + w = tx v k w := rfl
theorem tyr (v : List (BitVec 32)) : (rr 2 (wordAt v 0) ^^^ rr 13 (wordAt v 0) ^^^ rr 22 (wordAt v 0)) + (wordAt v 0 &&& wordAt v 1 ||| wordAt v 0 &&& wordAt v 2 ||| wordAt v 1 &&& wordAt v 2) = ty v := by rw [maj_or]; rfl
set_option maxRecDepth 100000 in
set_option maxHeartbeats 6400000 in
theorem rrounds_w (s W : List (BitVec 32)) (hs : s.length = 8) (hW : W.length = 64) (gs gw cs cw : Nat) (w : World) (h1 : ∀ j, j < 8 → w.cell? ⟨gs, j, none⟩ = some (.int .u32 (u (wordAt s j)))) (h2 : ∀ j, j < 64 → w.cell? ⟨gw, j, none⟩ = some (.int .u32 (u (wordAt W j)))) :
    Calls Try.prog 68 #[.slice (some ⟨gs, 0, none⟩) 8 cs, .slice (some ⟨gw, 0, none⟩) 64 cw] w fun e w' => ∃ v, e = .returned v ∧ OwnR w' w.heap.size 58 v (wsl (addk s (rnds s W 64) 8)) ∧ Grew w w' := by
  obtain ⟨iw, hi, hz, hsz, hby⟩ := info_w
  have l1 : gs < w.heap.size := World.block_lt_of_cell? w _ (h1 0 (by omega))
  have l2 : gw < w.heap.size := World.block_lt_of_cell? w _ (h2 0 (by omega))
  have H1 := Lib.hid h1
  have H2 := Lib.hid h2
  have hsh : Shows w (.slice (some ⟨gs, 0, none⟩) 8 cs) (wsl s) := by
    have : Shows w (.slice (some ⟨gs, 0, none⟩) (wsl s).length cs) (wsl s) := .inl ⟨gs, 0, cs, rfl, l1, fun j x hj => by
      have hj2 : j < s.length := by have := (List.getElem?_eq_some_iff.1 hj).1; rwa [wsl_len] at this
      rw [Nat.zero_add, h1 j (by omega), ← wsl_get s j hj2, hj]⟩
    rwa [wsl_len, hs] at this
  have HSH := Lib.hid hsh
  clear h1 h2 hsh
  go_enter Try.func68, Try.ntmps68
  go_wp2_with (first
    | (go_at_call 75; refine (rnumbers_w _).mono ?_; rintro e wk ⟨gk, rfl, hgk, hkc, hgr⟩)
    | (at_builtin; refine stop_of ?_))
  unfold Stop
  refine wpList_appends rfl _ _ _ rfl _ iw _ 4 under_ws hi hz hsz hby rfl wk _ _ _ rfl rfl [] (wsl s) (Grew.refl _) (by exact OwnR.nil _ _ _) (by exact HSH.out.grew hgr) (wsl_one s) (by rw [wsl_len, hs]; decide) (by rw [wsl_len, hs]; decide) ?_
  intro v0 w1 ho0 hg0
  rw [List.nil_append] at ho0
  have hg1 := hgr.trans hg0
  have HO := Lib.hid (ho0.base (base' := w.heap.size) hgr.size)
  have HG := Lib.hid hg1
  have HGK := Lib.hid (fun j hj => hg0.cell (hkc j hj))
  have HW1 := Lib.hid (fun j hj => hg1.cell (H2.out j hj))
  have HS1 := Lib.hid (fun j hj => hg1.cell (H1.out j hj))
  have z1 : w.heap.size ≤ w1.heap.size := hg1.size
  have z2 : gk < w1.heap.size := Nat.lt_of_lt_of_le hgk hg0.size
  have z3 : gw < w1.heap.size := by omega
  have z4 : gs < w1.heap.size := by omega
  clear ho0 hg0 hg1 hgr hkc hgk H2 HSH l2
  go_wp2
  go_loopw [7, 6] (fun n v wr => ∃ k : Nat, k ≤ 64 ∧ n = .int .i64 k ∧ OwnR wr w.heap.size 58 v (wsl (rnds s W k)) ∧ Grew w1 wr) (fun n _ _ => 64 - (intOf n).toNat)
  case atStart => exact ⟨0, by omega, rfl, HO.out, Grew.refl _⟩
  case round =>
    obtain ⟨k, hk, rfl, ho, hg⟩ := hrel
    have hrl := rnds_len s W hs k
    obtain ⟨g, cap, hv, hgb, hgs, hgc, hgm, hcell⟩ := own_form ho (by rw [wsl_len, hrl]; omega)
    rw [wsl_len, hrl] at hv hgc hcell
    have HO2 := Lib.hid ho
    have HG2 := Lib.hid hg
    have z5 := hg.size
    clear ho hg
    by_cases hn : k < 64
    · have hlt : (k : Int) < 64 := by omega
      subst hv
      have ck := HG2.out.cell (HGK.out k hn)
      have cw := HG2.out.cell (HW1.out k hn)
      have c0 := hcell 0 (by omega)
      have c1 := hcell 1 (by omega)
      have c2 := hcell 2 (by omega)
      have c3 := hcell 3 (by omega)
      have c4 := hcell 4 (by omega)
      have c5 := hcell 5 (by omega)
      have c6 := hcell 6 (by omega)
      have c7 := hcell 7 (by omega)
      rw [wsl_get _ _ (by rw [hrl]; omega)] at c0 c1 c2 c3 c4 c5 c6 c7
      have hfold : wsl (rnds s W (k + 1)) = [.int .u32 (u (tx (rnds s W k) (wordAt ks k) (wordAt W k) + ty (rnds s W k))), .int .u32 (u (wordAt (rnds s W k) 0)), .int .u32 (u (wordAt (rnds s W k) 1)), .int .u32 (u (wordAt (rnds s W k) 2)), .int .u32 (u (wordAt (rnds s W k) 3 + tx (rnds s W k) (wordAt ks k) (wordAt W k))), .int .u32 (u (wordAt (rnds s W k) 4)), .int .u32 (u (wordAt (rnds s W k) 5)), .int .u32 (u (wordAt (rnds s W k) 6))] := rfl
      rw [← tyr, ← txr, ← BitVec.add_assoc] at hfold
      obtain ⟨kk, hkk⟩ : ∃ x, wordAt ks k = x := ⟨_, rfl⟩
      obtain ⟨ww, hww⟩ : ∃ x, wordAt W k = x := ⟨_, rfl⟩
      obtain ⟨v0, hv0⟩ : ∃ x, wordAt (rnds s W k) 0 = x := ⟨_, rfl⟩
      obtain ⟨v1, hv1⟩ : ∃ x, wordAt (rnds s W k) 1 = x := ⟨_, rfl⟩
      obtain ⟨v2, hv2⟩ : ∃ x, wordAt (rnds s W k) 2 = x := ⟨_, rfl⟩
      obtain ⟨v3, hv3⟩ : ∃ x, wordAt (rnds s W k) 3 = x := ⟨_, rfl⟩
      obtain ⟨v4, hv4⟩ : ∃ x, wordAt (rnds s W k) 4 = x := ⟨_, rfl⟩
      obtain ⟨v5, hv5⟩ : ∃ x, wordAt (rnds s W k) 5 = x := ⟨_, rfl⟩
      obtain ⟨v6, hv6⟩ : ∃ x, wordAt (rnds s W k) 6 = x := ⟨_, rfl⟩
      obtain ⟨v7, hv7⟩ : ∃ x, wordAt (rnds s W k) 7 = x := ⟨_, rfl⟩
      simp only [hkk, hww, hv0, hv1, hv2, hv3, hv4, hv5, hv6, hv7] at c0 c1 c2 c3 c4 c5 c6 c7 ck cw hfold
      have HF := Lib.hid hfold
      have hnot := not_u v4
      have y1 : gk < wr.heap.size := by omega
      have y2 : gw < wr.heap.size := by omega
      clear hkk hww hv0 hv1 hv2 hv3 hv4 hv5 hv6 hv7 hfold hcell hk hn hrl
      go_wp2
      first | refine wp_region_pure_lit_g (by kernel_rfl) (by kernel_rfl) ?_ | refine wp_region_pure_lit (by kernel_rfl) (by kernel_rfl) ?_
      repeat (go_big_quiet_step ((go_at_call 76; exact Calls.pure_of (rturn_i _ _ (by decide) _))))
      refine wpQuiet_nil ?_
      intro _ hw'
      obtain ⟨δ1, hw''⟩ := hw'
      subst hw''
      go_wp2
      first | refine wp_region_pure_lit_g (by kernel_rfl) (by kernel_rfl) ?_ | refine wp_region_pure_lit (by kernel_rfl) (by kernel_rfl) ?_
      repeat (go_big_quiet_step ((fail)))
      refine wpQuiet_nil ?_
      intro _ hw'
      obtain ⟨δ1, hw''⟩ := hw'
      subst hw''
      go_wp2
      first | refine wp_region_pure_lit_g (by kernel_rfl) (by kernel_rfl) ?_ | refine wp_region_pure_lit (by kernel_rfl) (by kernel_rfl) ?_
      repeat (go_big_quiet_step ((fail)))
      refine wpQuiet_nil ?_
      intro _ hw'
      obtain ⟨δ1, hw''⟩ := hw'
      subst hw''
      go_wp2
      first | refine wp_region_pure_lit_g (by kernel_rfl) (by kernel_rfl) ?_ | refine wp_region_pure_lit (by kernel_rfl) (by kernel_rfl) ?_
      repeat (go_big_quiet_step ((go_at_call 76; exact Calls.pure_of (rturn_i _ _ (by decide) _))))
      refine wpQuiet_nil ?_
      intro _ hw'
      obtain ⟨δ1, hw''⟩ := hw'
      subst hw''
      go_wp2
      first | refine wp_region_pure_lit_g (by kernel_rfl) (by kernel_rfl) ?_ | refine wp_region_pure_lit (by kernel_rfl) (by kernel_rfl) ?_
      repeat (go_big_quiet_step ((fail)))
      refine wpQuiet_nil ?_
      intro _ hw'
      obtain ⟨δ1, hw''⟩ := hw'
      subst hw''
      go_wp2
      refine wp_region_flow (by kernel_rfl) ?_
      intro δf
      apply wpFlow_quiets [0,1,2,3,4,5,6,7,8,9,10,11,12,13,14,15,16,17,18,19,20,21,22,23,24,25,26,27] (by decide +kernel) (by decide +kernel) (by kernel_rfl) (by intro _ _ _ d _ h; cases d <;> exact h) _
      · intro A hA δ'
        simp only [pickOps_cons, pickOps_nil, pick1_zero, pick1_succ]
        repeat (go_big_quiet_step ((fail)))
        exact wpQuiet_nil hA.out.symm
      refine wpFlow_one 28 (by decide +kernel) (by kernel_rfl) (by kernel_rfl) ?_
      refine wpFlowS_intro ?_
      simp only [pickOps_cons, pickOps_nil, pick1_zero, pick1_succ]
      intro δf
      go_wp2_with (fail)
      refine ⟨(by first | assumption | (simp only [grow_grow, Array.append_assoc]; assumption) | exact Grew.refl _ | (simp only [grow_grow, Array.append_assoc]; exact (by repeat (first | with_reducible exact Grew.refl _ | with_reducible apply Grew.alloc | with_reducible apply Grew.grow | with_reducible apply Grew.drew | with_reducible apply Grew.drewN))) | exact (by repeat (first | with_reducible exact Grew.refl _ | with_reducible apply Grew.alloc | with_reducible apply Grew.grow | with_reducible apply Grew.drew | with_reducible apply Grew.drewN))), ?_⟩
      refine wpFlow_one 29 (by decide +kernel) (by kernel_rfl) (by kernel_rfl) ?_
      refine wpFlowS_intro ?_
      simp only [pickOps_cons, pickOps_nil, pick1_zero, pick1_succ]
      intro δf
      go_wp2_with (fail)
      refine ⟨(by first | assumption | (simp only [grow_grow, Array.append_assoc]; assumption) | exact Grew.refl _ | (simp only [grow_grow, Array.append_assoc]; exact (by repeat (first | with_reducible exact Grew.refl _ | with_reducible apply Grew.alloc | with_reducible apply Grew.grow | with_reducible apply Grew.drew | with_reducible apply Grew.drewN))) | exact (by repeat (first | with_reducible exact Grew.refl _ | with_reducible apply Grew.alloc | with_reducible apply Grew.grow | with_reducible apply Grew.drew | with_reducible apply Grew.drewN))), ?_⟩
      refine wpFlow_end (by decide +kernel) (by kernel_rfl) ?_
      intro δf
      go_wp2
      refine ⟨⟨k + 1, by omega, by go_num, ?_, HG2.out.trans (by repeat (first | with_reducible exact Grew.refl _ | with_reducible apply Grew.alloc | with_reducible apply Grew.grow | with_reducible apply Grew.drew | with_reducible apply Grew.drewN))⟩, by simp only [intOf]; omega⟩
      rw [HF.out]
      exact (own_alloc_g _ _ _ _ [_, _, _, _, _, _, _, _] (by omega) (by simp only [List.length_cons, List.length_nil, maxLen]; omega)).grew ⟨_, rfl⟩
    · obtain rfl : k = 64 := by omega
      obtain ⟨V, hV⟩ : ∃ V, rnds s W 64 = V := ⟨_, rfl⟩
      rw [hV] at HO2 hrl hcell
      have HV := Lib.hid hV
      have HGW := Lib.hid (HG.out.trans HG2.out)
      subst hv
      clear hV hcell hk hn HGK HW1 HO HS1
      go_wp2
      go_loopw [13] (fun n wr2 => ∃ k : Nat, k ≤ 8 ∧ n = .int .i64 k ∧ OwnR wr2 w.heap.size 58 (.slice (some ⟨g, 0, none⟩) 8 cap) (wsl (addk s V k)) ∧ Grew w wr2) (fun n _ => 8 - (intOf n).toNat)
      case atStart => exact ⟨0, by omega, rfl, by rw [addk_0 s V hrl]; exact HO2.out, HGW.out⟩
      case round =>
        obtain ⟨m, hm, rfl, ho3, hg3⟩ := hrel
        have hal := addk_len s V m
        have HO3 := Lib.hid ho3
        have HG3 := Lib.hid hg3
        have z6 := hg3.size
        clear ho3 hg3 z5 HO2 HGW
        by_cases hm8 : m < 8
        · have hlt : (m : Int) < 8 := by omega
          have ca := own_cell HO3.out m (by rw [wsl_len, hal]; exact hm8)
          rw [wsl_at, addk_at s V m hm8] at ca
          have cs' := HG3.out.cell (H1.out m hm8)
          have hfz := own_frozen HO3.out m
          have hgl : g < wr.heap.size := (HO3.out.block g rfl).2
          have y4 : gs < wr.heap.size := by omega
          have hset : (wsl (addk s V m)).set m (.int .u32 (u (wordAt V m + wordAt s m))) = wsl (addk s V (m + 1)) := by
            rw [← addk_set]; unfold wsl; rw [List.map_set]
          obtain ⟨x, hx⟩ : ∃ x, wordAt V m = x := ⟨_, rfl⟩
          obtain ⟨y, hy⟩ : ∃ y, wordAt s m = y := ⟨_, rfl⟩
          rw [hx] at ca
          rw [hy] at cs'
          rw [hx, hy] at hset
          have HSET := Lib.hid hset
          clear hset hx hy hm hm8 hal
          go_wp2
          first | refine wp_region_pure_tail_g 12 (by kernel_rfl) (by kernel_rfl) (by intro _ _ _ d _ h; cases d <;> exact h) ?_ | refine wp_region_pure_tail 12 (by kernel_rfl) (by kernel_rfl) (by intro _ _ _ d _ h; cases d <;> exact h) ?_
          simp only [List.take_succ_cons, List.take_zero, List.drop_succ_cons, List.drop_zero]
          repeat (go_big_quiet_step ((fail)))
          refine wpQuiet_nil ?_
          intro _ hw'
          obtain ⟨δ1, hw''⟩ := hw'
          subst hw''
          go_wp2
          have hst := own_stored (HO3.out.grew (w' := wr.grow δ1) ⟨_, rfl⟩) m (.int .u32 (u (x + y)))
          rw [HSET.out] at hst
          have hst' : OwnR ((wr.setCell ⟨g, m, none⟩ (.int .u32 (u (x + y)))).grow δ1) w.heap.size 58 (.slice (some ⟨g, 0, none⟩) 8 cap) (wsl (addk s V (m + 1))) ∧ (wr.grow δ1).grownBy ((wr.setCell ⟨g, m, none⟩ (.int .u32 (u (x + y)))).grow δ1) (some g) := by
            rw [← setCell_grow_old _ _ _ _ _ _ hgl]; exact hst
          exact ⟨⟨m + 1, by omega, by go_num, hst'.1, (HG3.out.grow δ1).grown hst'.2 fun j hj => (by cases hj; exact hgb)⟩, by simp only [intOf]; omega⟩
        · obtain rfl : m = 8 := by omega
          go_wp2
          go_ret
          exact ⟨_, rfl, by rw [HV.out]; exact HO3.out, HG3.out⟩
end Go.Proofs.Ytinkdkcmmjfhoaa
/- What is shown, as a string. -/
namespace Go.Proofs.Ytinkdkcmmjfhoaa
set_option linter.unusedVariables false
set_option linter.unusedSimpArgs false
open Go.RowKit
theorem foldl_push (l : List Nat) : ∀ (s : ByteArray), (l.map fun (c : Nat) => (c : Int)).foldl (fun r n => r.push (UInt8.ofNat n.toNat)) s = ⟨(s.data.toList ++ l.map UInt8.ofNat).toArray⟩ := by
  induction l with
  | nil => intro s; simp
  | cons a l ih =>
    intro s
    simp only [List.map_cons, List.foldl_cons, Int.toNat_natCast]
    rw [ih]
    simp [ByteArray.push]
/-- What is shown, as a string. -/
theorem shows_string {w : World} {v : Value} {l : List Nat} (h : Shows w v (bys l)) : (convert 38 9 v).run Try.prog w = .ok (.string (bstr l)) w := by
  have key : ∀ (a : Addr) (c : Nat), (∀ j u, (bys l)[j]? = some u → w.cell? (a.add j) = some u) → (convert 38 9 (.slice (some a) (bys l).length c)).run Try.prog w = .ok (.string (bstr l)) w := fun a c h => by
    have hl := run_loadCells_list (P := Try.prog) (w := w) a (bys l) h
    have hm : bys l = ((l.map fun (c : Nat) => (c : Int)).map (Value.int .u8)) := by simp [bys]
    rw [run_convert_bytes_string w _ _ 5 _ _ _ Try.underlying38 Try.underlying5 Try.underlying9, run_bytesToString w a _ c (l.map fun (c : Nat) => (c : Int)) (by rw [hl, hm]), foldl_push]
    rfl
  rcases h with ⟨b, o, c, rfl, hb, h⟩ | ⟨p, c, rfl, h0⟩
  · exact key _ c (fun j u hj => by rw [add_off]; exact h j u hj)
  · have hl : l = [] := by cases l with | nil => rfl | cons a l => simp [bys] at h0
    subst hl
    cases p with
    | some a => exact key a c (by simp [bys])
    | none =>
      rw [run_convert_bytes_string w _ _ 5 _ _ _ Try.underlying38 Try.underlying5 Try.underlying9]
      rfl
theorem conv_str {w : World} {v : Value} {l : List Nat} (h : Shows w v (bys l)) (δ : Junk) : (convert 38 9 v).run Try.prog (w.grow δ) = .ok (.string (bstr l)) (w.grow δ) := shows_string (h.grew ⟨δ, rfl⟩)
end Go.Proofs.Ytinkdkcmmjfhoaa
/- What bytes become, byte by byte; bytes as strings. -/
namespace Go.Proofs.Ytinkdkcmmjfhoaa
set_option linter.unusedVariables false
set_option linter.unusedSimpArgs false
open Go.RowKit
theorem byteAt_app (a b : List Nat) (i : Nat) : byteAt (a ++ b) i = if i < a.length then byteAt a i else byteAt b (i - a.length) := by
  unfold byteAt List.getD
  split
  · rename_i h; rw [List.getElem?_append_left h]
  · rename_i h; rw [List.getElem?_append_right (by omega)]
theorem byteAt_eq' (l : List Nat) (j : Nat) (h : j < l.length) : some (Value.int .u8 (byteAt l j : Nat)) = (bys l)[j]? := by rw [byteAt_eq l j h]; simp [bys, h]
theorem byteAt_zeros (n i : Nat) : byteAt (zeros n) i = 0 := by
  unfold byteAt zeros List.getD
  by_cases h : i < n
  · simp [h]
  · simp [h]
theorem byteAt_cons (c : Nat) (l : List Nat) (i : Nat) : byteAt (c :: l) (i + 1) = byteAt l i := by simp [byteAt, List.getD]
theorem tailk_8 (n : Nat) : tailk n 8 = [n / 2 ^ 56 % 256, n / 2 ^ 48 % 256, n / 2 ^ 40 % 256, n / 2 ^ 32 % 256, n / 2 ^ 24 % 256, n / 2 ^ 16 % 256, n / 2 ^ 8 % 256, n / 2 ^ 0 % 256] := rfl
theorem tailk_small (n : Nat) (h : n < 65536) : tailk n 8 = zeros 6 ++ [n / 256, n % 256] := by
  rw [tailk_8]
  simp only [zeros, List.replicate, List.cons_append, List.nil_append, List.cons.injEq]
  have e : ∀ k, 65536 ≤ 2 ^ k → n / 2 ^ k % 256 = 0 := fun k hk => by rw [Nat.div_eq_of_lt (by omega)]
  refine ⟨e 56 (by decide), e 48 (by decide), e 40 (by decide), e 32 (by decide), e 24 (by decide), e 16 (by decide), by omega, by omega, trivial⟩
/-- The zeros' number. -/
def padz (l : List Nat) : Nat := (64 - (l.length + 9) % 64) % 64
theorem pad_small (l : List Nat) (h : l.length ≤ 400) : pad l = (l ++ (128 :: zeros (padz l + 6))) ++ [8 * l.length / 256, 8 * l.length % 256] := by
  unfold pad
  rw [tailk_small _ (by omega)]
  have : zeros (padz l + 6) = zeros (padz l) ++ zeros 6 := by unfold zeros; rw [List.replicate_append_replicate]
  rw [this]
  simp [padz]
theorem pad_len' (l : List Nat) : (pad l).length = l.length + 9 + padz l := pad_len l
theorem padz_lt (l : List Nat) : padz l < 64 := Nat.mod_lt _ (by omega)
theorem pad_take (l : List Nat) : (pad l).take l.length = l := by unfold pad; rw [List.take_left]
theorem pad_at_len (l : List Nat) : byteAt (pad l) l.length = 128 := by
  unfold pad
  rw [byteAt_app, if_neg (by omega), Nat.sub_self]
  rfl
theorem pad_at_zero (l : List Nat) (h : l.length ≤ 400) (i : Nat) (h1 : l.length < i) (h2 : i < (pad l).length - 2) : byteAt (pad l) i = 0 := by
  have hp := pad_len' l
  rw [pad_small l h, byteAt_app, if_pos (by simp [zeros_len]; omega), byteAt_app, if_neg (by omega)]
  obtain ⟨j, hj⟩ : ∃ j, i - l.length = j + 1 := ⟨i - l.length - 1, by omega⟩
  rw [hj, byteAt_cons, byteAt_zeros]
theorem pad_at_end (l : List Nat) (h : l.length ≤ 400) : byteAt (pad l) ((pad l).length - 2) = 8 * l.length / 256 ∧ byteAt (pad l) ((pad l).length - 1) = 8 * l.length % 256 := by
  have hp := pad_len' l
  have hl : (l ++ (128 :: zeros (padz l + 6))).length = (pad l).length - 2 := by simp [zeros_len]; omega
  have e1 : (pad l).length - 1 = (pad l).length - 2 + 1 := by omega
  generalize (pad l).length = n at *
  rw [pad_small l h]
  constructor
  · rw [byteAt_app, if_neg (by omega), hl, Nat.sub_self]; rfl
  · rw [byteAt_app, if_neg (by omega), hl, e1, show n - 2 + 1 - (n - 2) = 1 by omega]; rfl
end Go.Proofs.Ytinkdkcmmjfhoaa
/- The document's Pad. -/
namespace Go.Proofs.Ytinkdkcmmjfhoaa
set_option linter.unusedVariables false
set_option linter.unusedSimpArgs false
open Go.RowKit
def lenV : Value → Nat
  | .slice _ n _ => n
  | _ => 0
theorem own_len {w : World} {base : Nat} {e : TypeId} {v : Value} {xs : List Value} (h : OwnR w base e v xs) : ∃ p c, v = .slice p xs.length c := shows_form h.shows
theorem tail_take (n k : Nat) (h : k < 8) : (tailk n 8).take (k + 1) = (tailk n 8).take k ++ [n / (72057594037927936 / 256 ^ k) % 256] := by
  rw [tailk_8]
  match k, h with
  | 0, _ => rfl
  | 1, _ => rfl
  | 2, _ => rfl
  | 3, _ => rfl
  | 4, _ => rfl
  | 5, _ => rfl
  | 6, _ => rfl
  | 7, _ => rfl
set_option maxRecDepth 100000 in
set_option maxHeartbeats 3200000 in
theorem rpad_w (l : List Nat) (v : Value) (w : World) (hl : l.length ≤ 1073741824) (hv : Shows w v (bys l)) :
    Calls Try.prog 66 #[v] w fun e w' => ∃ v', e = .returned v' ∧ OwnR w' w.heap.size 5 v' (bys (pad l)) ∧ Grew w w' := by
  obtain ⟨ib, hi, hz, hsz, hby⟩ := info_b
  obtain ⟨p, c, rfl⟩ := shows_form hv
  rw [bys_len] at hv ⊢
  have HV := Lib.hid hv
  clear hv
  have hpz := padz_lt l
  go_enter Try.func66, Try.ntmps66
  go_wp2_with (at_builtin; refine stop_of ?_)
  unfold Stop
  refine wpList_appends rfl _ _ _ rfl _ ib _ 1 under_bs hi hz hsz hby rfl w _ _ _ rfl rfl [] (bys l) (Grew.refl _) (by exact OwnR.nil _ _ _) (by exact HV.out) (bys_one l) (by rw [bys_len]; simp only [maxLen, List.length_nil]; omega) (by rw [bys_len]; simp only [List.length_nil]; omega) ?_
  intro v0 w1 ho0 hg0
  rw [List.nil_append] at ho0
  have HO := Lib.hid ho0
  have HG := Lib.hid hg0
  clear ho0 hg0
  go_wp2_with (at_builtin; refine stop_of ?_)
  unfold Stop
  refine wpList_append1 rfl _ _ _ rfl _ ib _ 1 under_bs hi hz hsz hby rfl w w1 _ _ rfl rfl (bys l) HG.out (by exact HO.out) rfl (by rw [bys_len]; simp only [maxLen]; omega) (by rw [bys_len]; omega) ?_
  intro v1 w2 ho1 hg1
  have HO1 := Lib.hid (show OwnR w2 w.heap.size 5 v1 (bys (l ++ 128 :: zeros 0)) by rw [bys_append]; exact ho1)
  have HG1 := Lib.hid hg1
  clear ho1 hg1 HO HG
  go_wp2
  go_loopw [3] (fun v wr => ∃ k : Nat, k ≤ padz l ∧ OwnR wr w.heap.size 5 v (bys (l ++ 128 :: zeros k)) ∧ Grew w wr) (fun v _ => l.length + 100 - lenV v)
  case atStart => exact ⟨0, by omega, HO1.out, HG1.out⟩
  case round =>
    clear HO1 HG1
    obtain ⟨k, hk, ho, hg⟩ := hrel
    have hlen : (bys (l ++ 128 :: zeros k)).length = l.length + 1 + k := by rw [bys_len]; simp [zeros_len]; omega
    obtain ⟨q, c', hv'⟩ := own_len ho
    rw [hlen] at hv'
    subst hv'
    have HO := Lib.hid ho
    have HG := Lib.hid hg
    clear ho hg
    obtain ⟨L, hL⟩ : ∃ L, l.length + 1 + k = L := ⟨_, rfl⟩
    rw [hL] at HO hlen ⊢
    by_cases hn : (L : Int) % 64 = 56
    · have hkk : k = padz l := by unfold padz at hk ⊢; omega
      have hn2 : (l.length : Int) ≤ 1073741824 := by omega
      have hLb : (L : Int) ≤ 2000000000 := by omega
      have HK := Lib.hid hkk
      have HL := Lib.hid hL
      clear hk hkk hL
      go_wp2
      clear hn hlen
      go_loopw [6, 3, 5] (fun i v y wr => ∃ k : Nat, k ≤ 8 ∧ i = .int .i64 k ∧ y = .int .u64 ((72057594037927936 / 256 ^ k : Nat) : Int) ∧ OwnR wr w.heap.size 5 v (bys ((l ++ 128 :: zeros (padz l)) ++ (tailk (8 * l.length) 8).take k)) ∧ Grew w wr) (fun i _ _ _ => 8 - (intOf i).toNat)
      case atStart => exact ⟨0, by omega, rfl, rfl, by rw [List.take_zero, List.append_nil, ← HK.out]; exact HO.out, HG.out⟩
      case round =>
        clear HO HG
        obtain ⟨m, hm, rfl, rfl, ho, hg⟩ := hrel
        have HO := Lib.hid ho
        have HG := Lib.hid hg
        clear ho hg
        by_cases hm8 : m < 8
        · have hlt : (m : Int) < 8 := by omega
          have ht := tail_take (8 * l.length) m hm8
          have hb1 : 1 ≤ 72057594037927936 / 256 ^ m := by
            match m, hm8 with
            | 0, _ => decide
            | 1, _ => decide
            | 2, _ => decide
            | 3, _ => decide
            | 4, _ => decide
            | 5, _ => decide
            | 6, _ => decide
            | 7, _ => decide
          have hb2 : 72057594037927936 / 256 ^ (m + 1) = 72057594037927936 / 256 ^ m / 256 := by rw [Nat.pow_succ, Nat.div_div_eq_div_mul]
          have hb3 : 72057594037927936 / 256 ^ m ≤ 72057594037927936 := Nat.div_le_self _ _
          obtain ⟨B, hB⟩ : ∃ B, 72057594037927936 / 256 ^ m = B := ⟨_, rfl⟩
          obtain ⟨B', hB'⟩ : ∃ B, 72057594037927936 / 256 ^ (m + 1) = B := ⟨_, rfl⟩
          rw [hB] at hb1 hb2 hb3 ht ⊢
          rw [hB'] at hb2
          have HB' := Lib.hid hB'
          have hlen2 : (bys ((l ++ 128 :: zeros (padz l)) ++ (tailk (8 * l.length) 8).take m)).length = l.length + 1 + padz l + m := by
            rw [bys_len]; simp [zeros_len, tailk_len]; omega
          have hnext : bys ((l ++ 128 :: zeros (padz l)) ++ (tailk (8 * l.length) 8).take (m + 1)) = bys ((l ++ 128 :: zeros (padz l)) ++ (tailk (8 * l.length) 8).take m) ++ [.int .u8 ((8 * l.length / B % 256 : Nat) : Int)] := by
            rw [ht, ← List.append_assoc, bys_append]; rfl
          have HN := Lib.hid hnext
          have hb4 : 1 ≤ (B : Int) := by omega
          have hb5 : (B : Int) ≠ 0 := by omega
          have hb6 : (B : Int) ≤ 72057594037927936 := by omega
          have hd1 : (8 * (l.length : Int)) / (B : Int) = ((8 * l.length / B : Nat) : Int) := by rw [Int.natCast_ediv]; rfl
          have hd2 : ((8 * l.length / B : Nat) : Int) % 256 = ((8 * l.length / B % 256 : Nat) : Int) := by rw [Int.natCast_emod]; rfl
          have hd3 : (B : Int) / 256 = (B' : Int) := by rw [hb2]; rfl
          have hd4 : 8 * l.length / B % 256 < 256 := Nat.mod_lt _ (by omega)
          have hd5 : 8 * l.length / B ≤ 8 * l.length := Nat.div_le_self _ _
          obtain ⟨Y, hY⟩ : ∃ Y, 8 * l.length / B % 256 = Y := ⟨_, rfl⟩
          rw [hY] at hd2 hd4 HN
          obtain ⟨X, hX⟩ : ∃ X, 8 * l.length / B = X := ⟨_, rfl⟩
          rw [hX] at hd1 hd2 hd5
          have hd6 : (X : Int) ≤ 18446744073709551615 := by omega
          clear hB hB' ht hnext hb1 hb2 hb3 hY hX hm hm8
          go_wp2_with (at_builtin; refine stop_of ?_)
          unfold Stop
          refine wpList_append1 rfl _ _ _ rfl _ ib _ 1 under_bs hi hz hsz hby rfl w wr _ _ rfl rfl _ HG.out (by exact HO.out) rfl (by rw [hlen2]; simp only [maxLen]; omega) (by rw [hlen2]; omega) ?_
          intro v2 w3 ho2 hg2
          have ho3 := HN.out ▸ ho2
          go_wp2
          exact ⟨⟨m + 1, by omega, by go_num, by rw [HB'.out], ho3, hg2⟩, by simp only [intOf]; omega⟩
        · obtain rfl : m = 8 := by omega
          go_wp2
          go_ret
          refine ⟨_, rfl, ?_, HG.out⟩
          have h8 : (tailk (8 * l.length) 8).take 8 = tailk (8 * l.length) 8 := List.take_of_length_le (by rw [tailk_len]; omega)
          have := HO.out
          rw [h8, List.append_assoc, List.cons_append] at this
          exact this
    · have hlt : k < padz l := by unfold padz at hk ⊢; omega
      have hne : ¬ ((L : Int) % 64 = 56) := hn
      have HLL := Lib.hid hL
      clear hk hL
      go_wp2_with (at_builtin; refine stop_of ?_)
      unfold Stop
      refine wpList_append1 rfl _ _ _ rfl _ ib _ 1 under_bs hi hz hsz hby rfl w wr _ _ rfl rfl _ HG.out (by exact HO.out) rfl (by rw [hlen]; simp only [maxLen]; have := HLL.out; omega) (by rw [hlen]; have := HLL.out; omega) ?_
      intro v2 w3 ho2 hg2
      obtain ⟨q2, c2, hv2⟩ := own_len ho2
      have hlen3 : (bys (l ++ 128 :: zeros k) ++ [Value.int .u8 0]).length = L + 1 := by rw [List.length_append, hlen]; rfl
      rw [hlen3] at hv2
      subst hv2
      go_wp2
      exact ⟨⟨k + 1, by omega, by rw [zeros_succ, show l ++ 128 :: (zeros k ++ [0]) = (l ++ 128 :: zeros k) ++ [0] by simp, bys_append]; exact ho2, hg2⟩, by simp only [lenV]; have := HLL.out; omega⟩
end Go.Proofs.Ytinkdkcmmjfhoaa
/- The document's Sum. -/
namespace Go.Proofs.Ytinkdkcmmjfhoaa
set_option linter.unusedVariables false
set_option linter.unusedSimpArgs false
open Go.RowKit
theorem rfirst_w (w : World) : Calls Try.prog 67 #[] w fun e w' => ∃ g, e = .returned (.slice (some ⟨g, 0, none⟩) 8 8) ∧ (∀ j, j < 8 → w'.cell? ⟨g, j, none⟩ = some (.int .u32 (u (wordAt words0 j)))) ∧ Grew w w' := by
  go_enter Try.func67, Try.ntmps67
  go_wp2
  go_ret
  refine ⟨w.heap.size, rfl, fun j hj => ?_, (by repeat (first | with_reducible exact Grew.refl _ | with_reducible apply Grew.alloc | with_reducible apply Grew.grow | with_reducible apply Grew.drew | with_reducible apply Grew.drewN))⟩
  have h := own_alloc w w.heap.size 58 (wsl words0) (Nat.le_refl _) (by decide)
  have h2 := own_cell h j (by rw [wsl_len]; exact hj)
  rw [wsl_at] at h2
  exact h2
theorem rpad_o (l : List Nat) (v : Value) (w : World) (hl : l.length ≤ 1073741824) (hv : Shows w v (bys l)) :
    Calls Try.prog 66 #[v] w fun e w' => ∃ b cap N, e = .returned (.slice (some ⟨b, 0, none⟩) N cap) ∧ (N = (pad l).length ∧ N ≤ cap) ∧ cap ≤ maxLen ∧ b < w'.heap.size ∧
      (∀ j, j < N → w'.cell? ⟨b, j, none⟩ = some (.int .u8 (byteAt (pad l) j : Nat))) ∧ Grew w w' := by
  refine (rpad_w l v w hl hv).mono ?_
  rintro e w' ⟨v', rfl, ho, hg⟩
  have hp := pad_len l
  obtain ⟨g, cap, rfl, _, hgs, hgc, hgm, hcell⟩ := own_form ho (by rw [bys_len]; omega)
  rw [bys_len] at hgc hcell ⊢
  refine ⟨g, cap, _, rfl, ⟨rfl, hgc⟩, hgm, hgs, fun j hj => ?_, hg⟩
  rw [hcell j hj, ← byteAt_eq' (pad l) j hj]
set_option maxRecDepth 100000 in
set_option maxHeartbeats 6400000 in
theorem rsum_w (l : List Nat) (v : Value) (w : World) (hl : l.length ≤ 1073741824) (hb : ∀ c ∈ l, c < 256) (hv : Shows w v (bys l)) :
    Calls Try.prog 52 #[v] w fun e w' => e = .returned (.agg (iv (sum l))) ∧ Grew w w' := by
  have HV := Lib.hid hv
  clear hv
  go_enter Try.func52, Try.ntmps52
  go_wp2_with (go_at_call 66; refine (rpad_o l v _ hl (HV.out.grew (by repeat (first | with_reducible exact Grew.refl _ | with_reducible apply Grew.alloc | with_reducible apply Grew.grow | with_reducible apply Grew.drew | with_reducible apply Grew.drewN)))).mono ?_; rintro e w2 ⟨b, cap, N, rfl, hK, hcap, hb2, hcs, hg2⟩; have HK := Lib.hid hK; clear hK; refine stop_of ?_)
  unfold Stop
  have HCS := Lib.hid hcs
  have HG2 := Lib.hid (show Grew (w.alloc (.cells (iv id0) 24)) w2 from hg2)
  clear hcs hg2
  go_wp2_with (go_at_call 67; refine (rfirst_w _).mono ?_; rintro e w3 ⟨g0, rfl, hc3, hg3⟩; refine stop_of ?_)
  unfold Stop
  have hg23 := HG2.out.trans hg3
  have r1 : w3.rowAt w.heap.size = iv id0 := by rw [Grew.rowAt hg23 _ (by simp)]; simp [go_sem]
  have r2 : w3.rowFree w.heap.size = true := by rw [Grew.rowFree hg23 _ (by simp)]; simp [go_sem]
  have HCS3 := Lib.hid (fun j hj => hg3.cell (HCS.out j hj))
  have hgw3 : Grew w w3 := (show Grew w _ from (by repeat (first | with_reducible exact Grew.refl _ | with_reducible apply Grew.alloc | with_reducible apply Grew.grow | with_reducible apply Grew.drew | with_reducible apply Grew.drewN))).trans hg23
  have HG3 := Lib.hid hgw3
  have HC3 := Lib.hid hc3
  have hp := Lib.hid (And.intro (pad_mod l) (pad_len l))
  have z1 : w.heap.size < w3.heap.size := by have := hg23.size; simp at this; omega
  have z2 : b < w3.heap.size := Nat.lt_of_lt_of_le hb2 hg3.size
  clear hc3 hg3 hg23 hgw3 HCS HG2 hb2
  go_wp2
  go_loopw [5, 4] (fun n v wr => ∃ (k i g c : Nat), i = 64 * k ∧ i ≤ N ∧ n = .int .i64 (i : Nat) ∧ v = .slice (some ⟨g, 0, none⟩) 8 c ∧ (∀ j, j < 8 → wr.cell? ⟨g, j, none⟩ = some (.int .u32 (u (wordAt (sumk (pad l) k) j)))) ∧ Grew w3 wr) (fun n _ _ => N - (intOf n).toNat)
  case atStart => exact ⟨0, 0, g0, 8, rfl, by omega, rfl, rfl, HC3.out, Grew.refl _⟩
  case round =>
    obtain ⟨k, i, g, c, hik, hiN, rfl, rfl, hcells, hgr⟩ := hrel
    have HC := Lib.hid hcells
    have HG := Lib.hid hgr
    have HIK := Lib.hid hik
    have z3 := hgr.size
    clear hcells hgr HC3 hik
    by_cases hn : i < N
    · have hlt : (i : Int) < (N : Int) := by omega
      have h64 : i + 64 ≤ N := by have := hp.out; have := HK.out; have := HIK.out; omega
      have h64' : (i : Int) + 64 ≤ (N : Int) := by omega
      have hNb : (N : Int) ≤ 2000000000 := by have := hp.out; have := HK.out; omega
      have hNc : (N : Int) ≤ (cap : Int) := by have := HK.out; omega
      have hic : (i : Int) + 64 ≤ (cap : Int) := by omega
      have hii : (i : Int) ≤ (i : Int) + 64 := by omega
      clear hiN
      go_wp2_with (go_at_call 69; refine stop_of ?_)
      unfold Stop
      have hcw : ∀ j, j < 64 → wr.cell? ⟨b, i + j, none⟩ = some (.int .u8 (byteAt ((pad l).drop i) j : Nat)) := fun j hj => by
        rw [byteAt_drop]; exact HG.out.cell (HCS3.out (i + j) (by omega))
      have hpb : ∀ c ∈ (pad l).drop i, c < 256 := fun c hc => pad_lt l hb c (List.mem_of_mem_drop hc)
      refine (rwords_w ((pad l).drop i) hpb b i (cap - i) wr hcw).mono ?_
      rintro e w4 ⟨vw, rfl, how, hgw⟩
      have hsl64 : (sched ((pad l).drop i) 64).length = 64 := sched_len _ _
      obtain ⟨gw, capw, rfl, _, hgws, _, _, hwcell⟩ := own_form how (by rw [wsl_len, hsl64]; omega)
      rw [wsl_len, hsl64] at hwcell ⊢
      have HWC := Lib.hid (fun j (hj : j < 64) => (hwcell j hj).trans (wsl_get _ j (by rw [hsl64]; exact hj)))
      have HC4 := Lib.hid (fun j hj => hgw.cell (HC.out j hj))
      have HG4 := Lib.hid (HG.out.trans hgw)
      clear hwcell hgw how hcw hpb HC HG z3
      go_wp2_with (go_at_call 68; refine stop_of ?_)
      unfold Stop
      have hskl : (sumk (pad l) k).length = 8 := by rw [← sumOf_range]; exact sumOf_len _ _
      refine (rrounds_w (sumk (pad l) k) (sched ((pad l).drop i) 64) hskl hsl64 g gw c capw w4 HC4.out HWC.out).mono ?_
      rintro e w5 ⟨vr, rfl, hor, hgr⟩
      rw [addk_8] at hor
      have hcl : (compress (sumk (pad l) k) ((pad l).drop i)).length = 8 := compress_len _ _
      obtain ⟨gr, capr, rfl, _, hgrs, _, _, hrcell⟩ := own_form hor (by rw [wsl_len, hcl]; omega)
      rw [wsl_len, hcl] at hrcell ⊢
      have HRC := Lib.hid (fun j (hj : j < 8) => (hrcell j hj).trans (wsl_get _ j (by rw [hcl]; exact hj)))
      have HG5 := Lib.hid (HG4.out.trans hgr)
      clear hrcell hgr hor HC4 HG4 HWC
      go_wp2
      exact ⟨⟨k + 1, i + 64, gr, capr, by have := HIK.out; omega, by omega, by go_num, rfl, (by rw [HIK.out] at HRC; exact HRC.out), HG5.out⟩, by simp only [intOf]; omega⟩
    · obtain rfl : i = N := by omega
      have hsum : sum l = outk (sumk (pad l) k) 32 := by
        have := HK.out.1
        have := HIK.out
        unfold sum
        rw [show (pad l).length / 64 = k by omega]
      have HSUM := Lib.hid hsum
      obtain ⟨S, hS⟩ : ∃ S, sumk (pad l) k = S := ⟨_, rfl⟩
      have hSl : S.length = 8 := by rw [← hS, ← sumOf_range]; exact sumOf_len _ _
      rw [hS] at HC HSUM
      have q1 : wr.rowAt w.heap.size = iv id0 := by rw [Grew.rowAt HG.out _ z1]; exact r1
      have q2 : wr.rowFree w.heap.size = true := by rw [Grew.rowFree HG.out _ z1]; exact r2
      have HGW := Lib.hid (HG3.out.trans HG.out)
      have z4 : w.heap.size < wr.heap.size := by omega
      have z5 : g < wr.heap.size := World.block_lt_of_cell? wr _ (HC.out 0 (by omega))
      clear r1 r2 hp HCS3 HK hiN hn HG HG3 HIK hsum hS z1 z2 z3
      go_wp2
      go_loopw [7] (fun n wr2 => ∃ m : Nat, m ≤ 8 ∧ n = .int .i64 m ∧ wr2 = wr.alloc (.cells (iv (outk S (4 * m))) 24)) (fun n _ => 8 - (intOf n).toNat)
      case atStart => exact ⟨0, by omega, rfl, by rw [Nat.mul_zero, outk_0]⟩
      case round =>
        obtain ⟨m, hm, rfl, rfl⟩ := hrel
        by_cases hm8 : m < 8
        · have hlt : (m : Int) < 8 := by omega
          have hcx := HC.out m hm8
          have hx := u_bd (wordAt S m)
          have ol := outk_len S
          have w0 : wordByte S (4 * m) = (wordAt S m).toNat / 16777216 := by
            unfold wordByte
            rw [show 4 * m / 4 = m by omega, show 24 - 8 * (4 * m % 4) = 24 by omega]
            have := (wordAt S m).isLt
            omega
          have w1 : wordByte S (4 * m + 1) = (wordAt S m).toNat / 65536 % 256 := by
            unfold wordByte
            rw [show (4 * m + 1) / 4 = m by omega, show 24 - 8 * ((4 * m + 1) % 4) = 16 by omega]
          have w2 : wordByte S (4 * m + 2) = (wordAt S m).toNat / 256 % 256 := by
            unfold wordByte
            rw [show (4 * m + 2) / 4 = m by omega, show 24 - 8 * ((4 * m + 2) % 4) = 8 by omega]
          have w3 : wordByte S (4 * m + 3) = (wordAt S m).toNat % 256 := by
            unfold wordByte
            rw [show (4 * m + 3) / 4 = m by omega, show 24 - 8 * ((4 * m + 3) % 4) = 0 by omega, Nat.pow_zero, Nat.div_one]
          have s0 := iv_set' (outk S (4 * m)) (4 * m) (wordByte S (4 * m))
          have s1 := iv_set' (outk S (4 * m + 1)) (4 * m + 1) (wordByte S (4 * m + 1))
          have s2 := iv_set' (outk S (4 * m + 2)) (4 * m + 2) (wordByte S (4 * m + 2))
          have s3 := iv_set' (outk S (4 * m + 3)) (4 * m + 3) (wordByte S (4 * m + 3))
          rw [outk_set] at s0 s1 s2 s3
          have a0 := iv_at (outk S (4 * m)) (4 * m) (by rw [ol]; omega)
          have a1 := iv_at (outk S (4 * m + 1)) (4 * m + 1) (by rw [ol]; omega)
          have a2 := iv_at (outk S (4 * m + 2)) (4 * m + 2) (by rw [ol]; omega)
          have a3 := iv_at (outk S (4 * m + 3)) (4 * m + 3) (by rw [ol]; omega)
          obtain ⟨x, hxx⟩ : ∃ x, wordAt S m = x := ⟨_, rfl⟩
          rw [hxx] at hcx hx w0 w1 w2 w3
          have x1 := hx.1
          have x2 : u x ≤ 4294967295 := by omega
          have e0 : u x / 16777216 = ((wordByte S (4 * m) : Nat) : Int) := by rw [w0]; unfold u; omega
          have e1 : u x / 65536 % 256 = ((wordByte S (4 * m + 1) : Nat) : Int) := by rw [w1]; unfold u; omega
          have e2 : u x / 256 % 256 = ((wordByte S (4 * m + 2) : Nat) : Int) := by rw [w2]; unfold u; omega
          have e3 : u x % 256 = ((wordByte S (4 * m + 3) : Nat) : Int) := by rw [w3]; unfold u; omega
          have y0 := wordByte_lt S (4 * m)
          have y1 := wordByte_lt S (4 * m + 1)
          have y2 := wordByte_lt S (4 * m + 2)
          have y3 := wordByte_lt S (4 * m + 3)
          have i0 : 4 * (m : Int) < 32 := by omega
          have i1 : 4 * (m : Int) + 1 < 32 := by omega
          have i2 : 4 * (m : Int) + 2 < 32 := by omega
          have i3 : 4 * (m : Int) + 3 < 32 := by omega
          clear w0 w1 w2 w3 hxx hx hm hm8
          go_wp2
          exact ⟨⟨m + 1, by omega, by go_num, rfl⟩, by simp only [intOf]; omega⟩
        · obtain rfl : m = 8 := by omega
          have ol := outk_len S 32
          clear hm hm8
          go_wp2
          refine bodyPost_ret (id_result rfl _ rfl (l := outk S 32) ?_ ol) rfl ⟨by rw [HSUM.out], (Grew.setRow_new HGW.out _ _ (Nat.le_refl _)).alloc _⟩
          rw [rowAt_alloc_past _ _ _ (by rw [setRow_size]; exact z4), rowAt_setRow_free _ _ _ q2]
end Go.Proofs.Ytinkdkcmmjfhoaa
/- The document's Text and Node. -/
namespace Go.Proofs.Ytinkdkcmmjfhoaa
set_option linter.unusedVariables false
set_option linter.unusedSimpArgs false
open Go.RowKit
theorem shows_row {w : World} {g : Nat} {a : List Nat} (hg : g < w.heap.size) (h : w.rowAt g = iv a) : Shows w (.slice (some ⟨g, 0, none⟩) a.length a.length) (bys a) := by
  have : Shows w (.slice (some ⟨g, 0, none⟩) (bys a).length a.length) (bys a) := .inl ⟨g, 0, a.length, rfl, hg, fun j u hj => by
    rw [Nat.zero_add, cell_rowAt, h, ← bys_iv, List.getElem?_toArray]; exact hj⟩
  rwa [bys_len] at this
set_option maxRecDepth 100000 in
set_option maxHeartbeats 3200000 in
theorem rtext_w (a b : Idb) (w : World) :
    Calls Try.prog 70 #[.agg (iv a.l), .agg (iv b.l)] w fun e w' => ∃ v, e = .returned v ∧ OwnR w' w.heap.size 5 v (bys (textL a.l b.l)) ∧ Grew w w' := by
  obtain ⟨ib, hi, hz, hsz, hby⟩ := info_b
  have ha := a.len
  have hb := b.len
  go_enter Try.func70, Try.ntmps70
  go_wp2_with (at_builtin; refine stop_of ?_)
  unfold Stop
  refine wpList_abs ?_
  intro X hX
  have gX : Grew w X := by rw [hX]; exact (by repeat (first | with_reducible exact Grew.refl _ | with_reducible apply Grew.alloc | with_reducible apply Grew.grow | with_reducible apply Grew.drew | with_reducible apply Grew.drewN))
  have sX : X.heap.size = w.heap.size + 3 := by rw [hX]; simp
  have ra : X.rowAt w.heap.size = iv a.l := by rw [hX]; simp [go_sem]
  have rb : X.rowAt (w.heap.size + 1) = iv b.l := by rw [hX]; simp [go_sem]
  have s1 : Shows X (.slice (some ⟨w.heap.size, 0, none⟩) 32 32) (bys a.l) := by
    have := shows_row (by omega) ra
    rwa [ha] at this
  have s2 : Shows X (.slice (some ⟨w.heap.size + 1, 0, none⟩) 32 32) (bys b.l) := by
    have := shows_row (by omega) rb
    rwa [hb] at this
  have o1 : OwnR X (w.heap.size + 2) 5 (.slice (some ⟨w.heap.size + 1 + 1, 0, none⟩) 1 1) (bys [1]) := by
    rw [hX]
    have h6 := own_alloc ((w.alloc (.cells (iv a.l) 24)).alloc (.cells (iv b.l) 24)) (w.heap.size + 2) 5 [.int .u8 1] (by simp only [World.size_alloc]; omega) (by decide)
    rw [World.size_alloc, World.size_alloc] at h6
    exact h6
  have S2 := Lib.hid s2
  have GX := Lib.hid gX
  clear ra rb hX gX s2
  refine wpList_append_shows rfl _ _ _ rfl (w.heap.size + 2) _ ib _ 1 under_bs hi hz hsz hby rfl _ _ rfl rfl (bys [1]) (bys a.l) (by exact o1) (by exact s1) (bys_one a.l) (by rw [bys_len, bys_len, ha]; decide) (by rw [bys_len, bys_len, ha]; decide) (by omega) ?_
  intro v1 w1 ho1 hgb
  have hblock := o1.block
  have g1 : Grew w w1 := GX.out.grown hgb (fun k hk => by have := (hblock k hk).1; omega)
  have s2' : Shows w1 (.slice (some ⟨w.heap.size + 1, 0, none⟩) 32 32) (bys b.l) := S2.out.kept hgb (.inr fun e => by
    have h5 : w.heap.size + 2 ≤ w.heap.size + 1 := (hblock _ e.symm).1
    omega)
  rw [← bys_append] at ho1
  have HO1 := Lib.hid (ho1.base (show w.heap.size ≤ w.heap.size + 2 by omega))
  have G1 := Lib.hid g1
  have S3 := Lib.hid s2'
  clear ho1 hgb g1 s2' hblock o1 s1 S2 GX
  go_wp2_with (at_builtin; refine stop_of ?_)
  unfold Stop
  refine wpList_appends rfl _ _ _ rfl _ ib _ 1 under_bs hi hz hsz hby rfl w w1 _ _ rfl rfl _ (bys b.l) G1.out (by exact HO1.out) (by exact S3.out) (bys_one b.l) (by rw [bys_len, bys_len, List.length_append, ha, hb]; decide) (by rw [bys_len, bys_len, List.length_append, ha, hb]; decide) ?_
  intro v2 w2 ho2 hg2
  rw [← bys_append] at ho2
  have HO2 := Lib.hid ho2
  have G2 := Lib.hid hg2
  clear ho2 hg2
  go_wp2
  go_ret
  exact ⟨_, rfl, HO2.out, G2.out⟩
set_option maxRecDepth 100000 in
set_option maxHeartbeats 3200000 in
theorem rnode_w (a b : Idb) (w : World) : Calls Try.prog 54 #[.agg (iv a.l), .agg (iv b.l)] w fun e w' => e = .returned (.agg (iv (Idb.node a b).l)) ∧ Grew w w' := by
  have ha := a.len
  have hb := b.len
  have C1 := Lib.hid (fun W v (hs : Shows W v (bys (textL a.l b.l))) => rsum_w (textL a.l b.l) v W (by rw [text_len]; decide) (text_lt a b) hs)
  have hnl := (Idb.node a b).len
  have hE : (sum (textL a.l b.l)) = (Idb.node a b).l := rfl
  rw [hE] at C1
  obtain ⟨x, hx⟩ : ∃ x, Idb.node a b = x := ⟨_, rfl⟩
  rw [hx] at C1 hnl ⊢
  have pre : ∀ w' : World, Grew (((w.alloc (.cells (iv a.l) 24)).alloc (.cells (iv b.l) 24)).alloc (.cells (iv id0) 24)) w' → Grew w w' ∧ w'.rowAt (w.heap.size + 1 + 1) = iv id0 ∧ w'.rowFree (w.heap.size + 1 + 1) = true ∧ w.heap.size + 1 + 1 < w'.heap.size := fun w' hg => by
    have hsz := hg.size
    simp only [World.size_alloc] at hsz
    refine ⟨(show Grew w _ from (by repeat (first | with_reducible exact Grew.refl _ | with_reducible apply Grew.alloc | with_reducible apply Grew.grow | with_reducible apply Grew.drew | with_reducible apply Grew.drewN))).trans hg, ?_, ?_, by omega⟩
    · rw [Grew.rowAt hg _ (by simp only [World.size_alloc]; omega)]; simp [go_sem]
    · rw [Grew.rowFree hg _ (by simp only [World.size_alloc]; omega)]; simp [go_sem]
  have PRE := Lib.hid pre
  clear pre hE hx
  go_enter Try.func54, Try.ntmps54
  go_wp2_with (first | (go_at_call 70; refine (rtext_w a b _).mono ?_; rintro e w' ⟨v, rfl, ho, hg⟩; obtain ⟨gw, r0, f0, z0⟩ := PRE.out w' hg; have HO := Lib.hid ho; have GW := Lib.hid gw; clear ho hg gw) | (go_at_call 52; refine (C1.out _ _ HO.out.shows).mono ?_; rintro e w'' ⟨rfl, δ, rfl⟩; have z2 : w.heap.size + 1 + 1 < w'.heap.size + δ.n := by omega))
  refine bodyPost_ret (id_res rfl _ rfl (x := x) (by simp [go_sem, r0, f0, z0])) rfl ⟨rfl, ?_⟩
  exact (Grew.setRow_new GW.out _ _ (by omega)).grow δ
end Go.Proofs.Ytinkdkcmmjfhoaa
/- The document's Half and Sides. -/
namespace Go.Proofs.Ytinkdkcmmjfhoaa
set_option linter.unusedVariables false
set_option linter.unusedSimpArgs false
open Go.RowKit
set_option maxRecDepth 100000 in
set_option maxHeartbeats 3200000 in
theorem rhalf_w (n : Nat) (h2 : 2 ≤ n) (hn : n ≤ 1000000) (w : World) :
    Calls Try.prog 53 #[.int .i64 n] w fun e w' => e = .returned (.int .i64 (halfN n : Nat)) ∧ Grew w w' := by
  go_enter Try.func53, Try.ntmps53
  go_wp2
  go_loopw [3] (fun a wr => ∃ j : Nat, 2 ^ j < n ∧ a = .int .i64 ((2 ^ j : Nat) : Int) ∧ wr = w) (fun a _ => n - (intOf a).toNat)
  case atStart => exact ⟨0, by omega, rfl, rfl⟩
  case round =>
    obtain ⟨j, hj, rfl, rfl⟩ := hrel
    have hp : 2 ^ (j + 1) = 2 * 2 ^ j := by rw [Nat.pow_succ]; omega
    have h1 : 1 ≤ 2 ^ j := Nat.one_le_two_pow
    have hu := half_uniq n j h2 (by omega) hj
    obtain ⟨x, hx⟩ : ∃ x, 2 ^ j = x := ⟨_, rfl⟩
    rw [hx] at hj hp h1 hu ⊢
    by_cases h : 2 * x < n
    · have hlt : 2 * (x : Int) < (n : Int) := by omega
      have hnI : (n : Int) ≤ 1000000 := by omega
      have HP := Lib.hid hp
      have HJ := Lib.hid (And.intro h h1)
      clear hu hp hx h hj h1
      go_wp2
      have hp := HP.out
      have := HJ.out
      exact ⟨⟨j + 1, by omega, by rw [hp]; go_num, trivial⟩, by simp only [intOf]; omega⟩
    · have hge : ¬ 2 * (x : Int) < (n : Int) := by omega
      have hnI : (x : Int) ≤ 1000000 := by omega
      have HU := Lib.hid (hu (by omega))
      clear hu hp hx h hj h1
      go_wp2
      go_ret
      exact ⟨by rw [HU.out]; rfl, Grew.refl _⟩
/-- The cells of sides, as the document has them. -/
def bvs (l : List Nat) : List Value := l.map fun (c : Nat) => Value.bool (c == 0)
theorem bvs_len (l : List Nat) : (bvs l).length = l.length := by simp [bvs]
theorem bvs_append (l m : List Nat) : bvs (l ++ m) = bvs l ++ bvs m := by simp [bvs]
theorem bvs_one (l : List Nat) : ∀ x ∈ bvs l, x.oneCell' = true := by
  intro x hx
  obtain ⟨c, _, rfl⟩ := List.mem_map.1 hx
  rfl
theorem under_bos : Try.prog.underlying 73 = some (.slice 4) := by kernel_rfl
theorem info_bo : ∃ i, Try.prog.info? 4 = some i ∧ i.zero = some (.bool false) ∧ i.size = 1 ∧ i.bytes = 1 := by
  refine ⟨_, rfl, ?_, ?_, ?_⟩ <;> kernel_rfl
set_option maxRecDepth 100000 in
set_option maxHeartbeats 3200000 in
theorem rsides_w : ∀ (f n i : Nat), n ≤ f → 1 ≤ n → n ≤ 1000000 → i < n → ∀ w : World,
    Calls Try.prog 55 #[.int .i64 n, .int .i64 i] w fun e w' => ∃ v, e = .returned v ∧ OwnR w' w.heap.size 4 v (bvs (side n i).reverse) ∧ Grew w w'
  | 0, n, i, hf, h1, _, _, _ => by omega
  | f + 1, n, i, hf, h1, hn, hi, w => by
    obtain ⟨ii, hif, hz, hsz, hby⟩ := info_bo
    by_cases h2 : n = 1
    · subst h2
      clear hi hif hz hsz hby
      go_enter Try.func55, Try.ntmps55
      go_wp2
      go_ret
      rw [side_one 1 i (by omega)]
      exact ⟨_, rfl, OwnR.nil _ _ _, Grew.refl _⟩
    · have hne : ¬ (n : Int) = 1 := by omega
      have hsd := half_sand n (by omega) (by omega)
      have hp := half_pos n
      have hw := fun w => rhalf_w n (by omega) (by omega) w
      have hl := side_left n i (by omega) (by omega)
      have hr := side_right n i (by omega) (by omega)
      have ih := rsides_w f
      obtain ⟨k, hk⟩ : ∃ k, halfN n = k := ⟨_, rfl⟩
      rw [hk] at hsd hp hw hl hr
      have HW := Lib.hid hw
      by_cases hik : i < k
      · have hik' : (i : Int) < (k : Int) := by omega
        have HL := Lib.hid (hl hik)
        have hln := side_len k i (by omega) (by omega)
        have C1 := Lib.hid (fun w => ih k i (by omega) (by omega) (by omega) hik w)
        have hb : (bvs (side k i).reverse).length + 1 ≤ 1000001 := by rw [bvs_len, List.length_reverse]; omega
        clear hl hr hw hsd hp hk ih h2 hn h1 hf hi hln
        go_enter Try.func55, Try.ntmps55
        go_wp2_with (first | (go_at_call 53; refine (HW.out _).mono ?_; rintro e w' ⟨rfl, δ, rfl⟩) | (go_at_call 55; refine (C1.out _).mono ?_; rintro e w' ⟨v, rfl, ho, hg⟩; have HO := Lib.hid ho; have HG := Lib.hid hg; clear ho hg) | (at_builtin; refine stop_of ?_))
        unfold Stop
        have HOK : OwnR w' w.heap.size 4 v (bvs (side k i).reverse) := HO.out.base (Grew.size ⟨δ, rfl⟩)
        have hgw : Grew w w' := (show Grew w (w.grow δ) from ⟨δ, rfl⟩).trans HG.out
        refine wpList_append1 rfl _ _ _ rfl _ ii _ 1 under_bos hif hz hsz hby rfl w w' v _ rfl rfl _ hgw (by exact HOK) rfl (by simp only [maxLen]; omega) (by omega) ?_
        intro v2 w3 ho2 hg2
        have he : bvs (side n i).reverse = bvs (side k i).reverse ++ [.bool true] := by rw [HL.out, List.reverse_cons, bvs_append]; rfl
        rw [← he] at ho2
        go_wp2
        go_ret
        exact ⟨_, rfl, ho2, hg2⟩
      · have hik' : ¬ (i : Int) < (k : Int) := by omega
        have HL := Lib.hid (hr hik)
        have hln := side_len (n - k) (i - k) (by omega) (by omega)
        have e1 : (n : Int) - (k : Int) = ((n - k : Nat) : Int) := by omega
        have e2 : (i : Int) - (k : Int) = ((i - k : Nat) : Int) := by omega
        have C1 := Lib.hid (fun w => ih (n - k) (i - k) (by omega) (by omega) (by omega) (by omega) w)
        have hb : (bvs (side (n - k) (i - k)).reverse).length + 1 ≤ 1000001 := by rw [bvs_len, List.length_reverse]; omega
        obtain ⟨m, hm⟩ : ∃ m, n - k = m := ⟨_, rfl⟩
        obtain ⟨j, hj⟩ : ∃ j, i - k = j := ⟨_, rfl⟩
        rw [hm] at HL e1 C1 hb
        rw [hj] at HL e2 C1 hb
        have hnI : (n : Int) ≤ 1000000 := by omega
        have hk1 : 1 ≤ (k : Int) := by omega
        have hkn : (k : Int) ≤ (n : Int) := by omega
        have hin : (i : Int) ≤ (n : Int) := by omega
        clear hl hr hw hsd hp hk ih h2 hn h1 hf hi hln hm hj
        go_enter Try.func55, Try.ntmps55
        go_wp2_with (first | (go_at_call 53; refine (HW.out _).mono ?_; rintro e w' ⟨rfl, δ, rfl⟩) | (go_at_call 55; refine (C1.out _).mono ?_; rintro e w' ⟨v, rfl, ho, hg⟩; have HO := Lib.hid ho; have HG := Lib.hid hg; clear ho hg) | (at_builtin; refine stop_of ?_))
        unfold Stop
        have HOK : OwnR w' w.heap.size 4 v (bvs (side m j).reverse) := HO.out.base (Grew.size ⟨δ, rfl⟩)
        have hgw : Grew w w' := (show Grew w (w.grow δ) from ⟨δ, rfl⟩).trans HG.out
        refine wpList_append1 rfl _ _ _ rfl _ ii _ 1 under_bos hif hz hsz hby rfl w w' v _ rfl rfl _ hgw (by exact HOK) rfl (by simp only [maxLen]; omega) (by omega) ?_
        intro v2 w3 ho2 hg2
        have he : bvs (side n i).reverse = bvs (side m j).reverse ++ [.bool false] := by rw [HL.out, List.reverse_cons, bvs_append]; rfl
        rw [← he] at ho2
        go_wp2
        go_ret
        exact ⟨_, rfl, ho2, hg2⟩
end Go.Proofs.Ytinkdkcmmjfhoaa
