/- 'stepladderlaw07.LinkSums' answers true for every slice of ids, int, id, slice of ids, without panicking, and what it was handed reads as before. Conditions: none. -/
import Derived.ChangeKeysEq
import Derived.OwnWalk
import Derived.Test.YtinkdkcmmjfhoaaRows
import Derived.Test.YtinkdkcmmjfhoaaM6
/- The walk of LinkPaths. -/
namespace Go.Proofs.Ytinkdkcmmjfhoaa
set_option linter.unusedVariables false
set_option linter.unusedSimpArgs false
open Go.RowKit
theorem exit_abs {Q : Exit → Act → World → Prop} {e : Exit} {a : Act} {X : World} (h : ∀ Y, Y = X → Q e a Y) : Q e a X := h X rfl
theorem leads_in {ls : List Idb} {id x : Idb} {k : Nat} (prev : Idb) (hx : ls[k]? = some x) (h : x = id) : leads ls prev id = true := by
  subst h
  unfold leads
  rw [anyB_at hx (decide_eq_true rfl), Bool.or_true]
theorem leads_self (ls : List Idb) (p : Idb) : leads ls p p = true := by
  unfold leads
  rw [show ieq p.l p.l = true from decide_eq_true rfl, Bool.true_or]
set_option maxRecDepth 100000 in
set_option maxHeartbeats 6400000 in
theorem linkPaths_walk (q : Option Addr) (c : Nat) (l : List Idb) (hm : l.length ≤ maxLen) (i : Int) (r : Idb) (w : World) (hs : ShowsI w (.slice q l.length c) l) :
    Calls Try.prog 7 #[.slice q l.length c, .int .i64 i, .agg (iv r.l)] w fun e w' => e = .returned (.bool true) ∧ Grew w w' := by
  have HS := Lib.hid hs
  clear hs hm
  have hrl := r.len
  obtain ⟨N, hN⟩ : ∃ N, l.length = N := ⟨_, rfl⟩
  have HN := Lib.hid hN
  rw [hN] at HS ⊢
  clear hN
  by_cases h4 : ¬ (¬ 64 < (N : Int) ∧ ¬ i < 0 ∧ ¬ (N : Int) ≤ i)
  · have h5 : 64 < (N : Int) ∨ (¬ 64 < (N : Int) ∧ i < 0) ∨ (¬ 64 < (N : Int) ∧ ¬ i < 0 ∧ (N : Int) ≤ i) := by omega
    clear h4
    rcases h5 with h1 | ⟨h1, h2⟩ | ⟨h1, h2, h3⟩
    all_goals
      go_enter Try.func7, Try.ntmps7
      go_wp2_with (go_at_call 9; refine (awake_w _).mono ?_; rintro e w' ⟨rfl, δ, rfl⟩)
      go_ret
      exact ⟨rfl, (by repeat (first | with_reducible exact Grew.refl _ | with_reducible apply Grew.alloc | with_reducible apply Grew.grow | with_reducible apply Grew.drew | with_reducible apply Grew.drewN))⟩
  obtain ⟨h1, h2, h3⟩ : ¬ 64 < (N : Int) ∧ ¬ i < 0 ∧ ¬ (N : Int) ≤ i := by omega
  clear h4
  obtain ⟨j, rfl⟩ : ∃ j : Nat, i = (j : Int) := ⟨i.toNat, by omega⟩
  have hlen := HN.out
  obtain ⟨x, hx⟩ : ∃ x, l[j]? = some x := ⟨_, List.getElem?_eq_getElem (by omega)⟩
  have hxl := x.len
  have hok : pathOk l j = true := decide_eq_true (by omega)
  have hok2 : pathOk (leavesL l) j = true := by rw [pathOk_leaves]; exact hok
  have hof : pathOf (leavesL l) j = path (leavesL l) j := by unfold pathOf; rw [if_pos hok2]; rfl
  have CP := Lib.hid (fun W (g : Grew w W) => lpath_w l j (.slice q N c) W (by omega) (HS.out.grew g))
  rw [hok, hof] at CP
  have hpl := path_len (leavesL l) j (by rw [leavesL_len]; omega)
  have hsl := side_len (leavesL l).length j (by rw [leavesL_len]; omega) (by rw [leavesL_len]; omega)
  have hck := chk_path (leavesL l) j _ (by rw [leavesL_len]; omega) (leavesL_get l j x hx)
  rw [leavesL_len, hlen] at hck hsl
  have CR := Lib.hid (fun W (g : Grew w W) => lroot_w l (.slice q N c) W (by omega) (HS.out.grew g))
  have CL1 := Lib.hid (fun W (g : Grew w W) => leads_w l r x (.slice q N c) W (by omega) (HS.out.grew g))
  have CL2 := Lib.hid (fun W (g : Grew w W) => leads_w l r r (.slice q N c) W (by omega) (HS.out.grew g))
  rw [leads_in r hx rfl] at CL1
  rw [leads_self] at CL2
  have hrl2 := (root (leavesL l)).len
  obtain ⟨R, hR⟩ : ∃ R, root (leavesL l) = R := ⟨_, rfl⟩
  rw [hR] at CR hck hrl2
  obtain ⟨ps, hps⟩ : ∃ ps, path (leavesL l) j = ps := ⟨_, rfl⟩
  rw [hps] at CP hck hpl
  have hp64 : ps.length ≤ 100000 := by rw [hpl, leavesL_len, hlen]; omega
  have hhs := HS.out
  rw [← HN.out] at hhs
  obtain ⟨b, o, rfl, _, hcc, hb, hat⟩ := showsI_some hhs (by omega)
  have QL := Lib.hid (fun W (g : Grew w W) δ => load_idg (World.rangeAt.grew (hat j x hx) g) δ)
  have C1 := Lib.hid hck
  clear hhs hck hat hR hps hx hok hok2 hof hcc hpl hsl hlen
  go_enter Try.func7, Try.ntmps7
  go_wp2_with (first | (go_at_call 9; refine (awake_w _).mono ?_; rintro e w' ⟨rfl, δ, rfl⟩) | (go_at_call 14; refine stop_of ?_))
  unfold Stop
  refine Calls_abs ?_
  intro X hX
  have gX : Grew w X := by rw [hX]; exact (by repeat (first | with_reducible exact Grew.refl _ | with_reducible apply Grew.alloc | with_reducible apply Grew.grow | with_reducible apply Grew.drew | with_reducible apply Grew.drewN))
  have rX : X.rowAt w.heap.size = iv r.l := by rw [hX]; simp [go_sem]
  have zX : w.heap.size < X.heap.size := by rw [hX]; simp; omega
  clear hX
  refine (CP.out X gX).mono ?_
  rintro e W1 ⟨v1, rfl, ho, hg⟩
  have PS := Lib.hid (ho.shows Idb.cs_len)
  have G1 := Lib.hid (gX.trans hg)
  have r1 : W1.rowAt w.heap.size = iv r.l := by rw [Grew.rowAt hg _ zX]; exact rX
  have z1 : w.heap.size < W1.heap.size := Nat.lt_of_lt_of_le zX hg.size
  have CC := Lib.hid (fun W (g : Grew W1 W) => lcheck_w R N j x ps v1 W (PS.out.grew g) hp64)
  rw [C1.out] at CC
  have q1 := QL.out W1 G1.out
  clear ho hg gX rX zX CP QL C1 PS
  go_wp2
  refine wp_region_flow (by kernel_rfl) ?_
  intro δf
  apply wpFlow_quiets [0,1,2] (by decide +kernel) (by decide +kernel) (by kernel_rfl) (by intro _ _ _ d _ h; cases d <;> exact h) _
  · intro A hA δ'
    simp only [pickOps_cons, pickOps_nil, pick1_zero, pick1_succ]
    repeat (go_big_quiet_step ((fail)))
    exact wpQuiet_nil hA.out.symm
  apply wpFlow_quiets [3] (by decide +kernel) (by decide +kernel) (by kernel_rfl) (by intro _ _ _ d _ h; cases d <;> exact h) _
  · intro A hA δ'
    simp only [pickOps_cons, pickOps_nil, pick1_zero, pick1_succ]
    repeat (go_big_quiet_step ((go_at_call 18; (with_reducible first | exact Calls.pure_of_g3 (CR.out _ (G1.out.trans (by repeat (first | with_reducible exact Grew.refl _ | with_reducible apply Grew.alloc | with_reducible apply Grew.grow | with_reducible apply Grew.drew | with_reducible apply Grew.drewN)))) | exact Calls.pure_of_g4 (CR.out _ (G1.out.trans (by repeat (first | with_reducible exact Grew.refl _ | with_reducible apply Grew.alloc | with_reducible apply Grew.grow | with_reducible apply Grew.drew | with_reducible apply Grew.drewN)))) | exact Calls.pure_of_g (CR.out _ (G1.out.trans (by repeat (first | with_reducible exact Grew.refl _ | with_reducible apply Grew.alloc | with_reducible apply Grew.grow | with_reducible apply Grew.drew | with_reducible apply Grew.drewN)))) | exact Calls.pure_of_g5 (CR.out _ (G1.out.trans (by repeat (first | with_reducible exact Grew.refl _ | with_reducible apply Grew.alloc | with_reducible apply Grew.grow | with_reducible apply Grew.drew | with_reducible apply Grew.drewN))))))))
    exact wpQuiet_nil hA.out.symm
  apply wpFlow_quiets [4,5,6,7,8,9,10,11] (by decide +kernel) (by decide +kernel) (by kernel_rfl) (by intro _ _ _ d _ h; cases d <;> exact h) _
  · intro A hA δ'
    simp only [pickOps_cons, pickOps_nil, pick1_zero, pick1_succ]
    repeat (go_big_quiet_step ((fail)))
    exact wpQuiet_nil hA.out.symm
  apply wpFlow_quiets [12] (by decide +kernel) (by decide +kernel) (by kernel_rfl) (by intro _ _ _ d _ h; cases d <;> exact h) _
  · intro A hA δ'
    simp only [pickOps_cons, pickOps_nil, pick1_zero, pick1_succ]
    repeat (go_big_quiet_step ((go_at_call 19; (with_reducible first | exact Calls.pure_of_g3 (CC.out _ (by repeat (first | with_reducible exact Grew.refl _ | with_reducible apply Grew.alloc | with_reducible apply Grew.grow | with_reducible apply Grew.drew | with_reducible apply Grew.drewN))) | exact Calls.pure_of_g4 (CC.out _ (by repeat (first | with_reducible exact Grew.refl _ | with_reducible apply Grew.alloc | with_reducible apply Grew.grow | with_reducible apply Grew.drew | with_reducible apply Grew.drewN))) | exact Calls.pure_of_g (CC.out _ (by repeat (first | with_reducible exact Grew.refl _ | with_reducible apply Grew.alloc | with_reducible apply Grew.grow | with_reducible apply Grew.drew | with_reducible apply Grew.drewN))) | exact Calls.pure_of_g5 (CC.out _ (by repeat (first | with_reducible exact Grew.refl _ | with_reducible apply Grew.alloc | with_reducible apply Grew.grow | with_reducible apply Grew.drew | with_reducible apply Grew.drewN)))))))
    exact wpQuiet_nil hA.out.symm
  apply wpFlow_quiets [13,14,15,16,17,18,19,20] (by decide +kernel) (by decide +kernel) (by kernel_rfl) (by intro _ _ _ d _ h; cases d <;> exact h) _
  · intro A hA δ'
    simp only [pickOps_cons, pickOps_nil, pick1_zero, pick1_succ]
    repeat (go_big_quiet_step ((fail)))
    exact wpQuiet_nil hA.out.symm
  apply wpFlow_quiets [21] (by decide +kernel) (by decide +kernel) (by kernel_rfl) (by intro _ _ _ d _ h; cases d <;> exact h) _
  · intro A hA δ'
    simp only [pickOps_cons, pickOps_nil, pick1_zero, pick1_succ]
    repeat (go_big_quiet_step ((go_at_call 11; (with_reducible first | exact Calls.pure_of_g3 (CL1.out _ (G1.out.trans (by repeat (first | with_reducible exact Grew.refl _ | with_reducible apply Grew.alloc | with_reducible apply Grew.grow | with_reducible apply Grew.drew | with_reducible apply Grew.drewN)))) | exact Calls.pure_of_g4 (CL1.out _ (G1.out.trans (by repeat (first | with_reducible exact Grew.refl _ | with_reducible apply Grew.alloc | with_reducible apply Grew.grow | with_reducible apply Grew.drew | with_reducible apply Grew.drewN)))) | exact Calls.pure_of_g (CL1.out _ (G1.out.trans (by repeat (first | with_reducible exact Grew.refl _ | with_reducible apply Grew.alloc | with_reducible apply Grew.grow | with_reducible apply Grew.drew | with_reducible apply Grew.drewN)))) | exact Calls.pure_of_g5 (CL1.out _ (G1.out.trans (by repeat (first | with_reducible exact Grew.refl _ | with_reducible apply Grew.alloc | with_reducible apply Grew.grow | with_reducible apply Grew.drew | with_reducible apply Grew.drewN))))))))
    exact wpQuiet_nil hA.out.symm
  apply wpFlow_quiets [22,23,24,25,26] (by decide +kernel) (by decide +kernel) (by kernel_rfl) (by intro _ _ _ d _ h; cases d <;> exact h) _
  · intro A hA δ'
    simp only [pickOps_cons, pickOps_nil, pick1_zero, pick1_succ]
    repeat (go_big_quiet_step ((fail)))
    exact wpQuiet_nil hA.out.symm
  apply wpFlow_quiets [27] (by decide +kernel) (by decide +kernel) (by kernel_rfl) (by intro _ _ _ d _ h; cases d <;> exact h) _
  · intro A hA δ'
    simp only [pickOps_cons, pickOps_nil, pick1_zero, pick1_succ]
    repeat (go_big_quiet_step ((go_at_call 11; (with_reducible first | exact Calls.pure_of_g3 (CL2.out _ (G1.out.trans (by repeat (first | with_reducible exact Grew.refl _ | with_reducible apply Grew.alloc | with_reducible apply Grew.grow | with_reducible apply Grew.drew | with_reducible apply Grew.drewN)))) | exact Calls.pure_of_g4 (CL2.out _ (G1.out.trans (by repeat (first | with_reducible exact Grew.refl _ | with_reducible apply Grew.alloc | with_reducible apply Grew.grow | with_reducible apply Grew.drew | with_reducible apply Grew.drewN)))) | exact Calls.pure_of_g (CL2.out _ (G1.out.trans (by repeat (first | with_reducible exact Grew.refl _ | with_reducible apply Grew.alloc | with_reducible apply Grew.grow | with_reducible apply Grew.drew | with_reducible apply Grew.drewN)))) | exact Calls.pure_of_g5 (CL2.out _ (G1.out.trans (by repeat (first | with_reducible exact Grew.refl _ | with_reducible apply Grew.alloc | with_reducible apply Grew.grow | with_reducible apply Grew.drew | with_reducible apply Grew.drewN))))))))
    exact wpQuiet_nil hA.out.symm
  apply wpFlow_quiets [28,29] (by decide +kernel) (by decide +kernel) (by kernel_rfl) (by intro _ _ _ d _ h; cases d <;> exact h) _
  · intro A hA δ'
    simp only [pickOps_cons, pickOps_nil, pick1_zero, pick1_succ]
    repeat (go_big_quiet_step ((fail)))
    exact wpQuiet_nil hA.out.symm
  refine wpFlow_end (by decide +kernel) (by kernel_rfl) ?_
  intro δf
  go_wp2
  go_ret
  exact ⟨rfl, G1.out.trans (by repeat (first | with_reducible exact Grew.refl _ | with_reducible apply Grew.alloc | with_reducible apply Grew.grow | with_reducible apply Grew.drew | with_reducible apply Grew.drewN))⟩
end Go.Proofs.Ytinkdkcmmjfhoaa
/- Pairs of ids by '=='; the first step at which two climbs meet. -/
namespace Go.Proofs.Ytinkdkcmmjfhoaa
set_option linter.unusedVariables false
set_option linter.unusedSimpArgs false
open Go.RowKit
theorem equal_id' (d : Nat) (a b : List Nat) (ha : a.length = 32) (hb : b.length = 32) (w : World) : (Op.equalIn (d + 2) 24 (.agg (iv a)) (.agg (iv b))).run Try.prog w = .ok (ieq a b) w := by
  have e : ∀ l : List Nat, iv l = ((l.map fun (c : Nat) => (c : Int)).map (Value.int .u8)).toArray := fun l => by simp [iv]
  rw [e, e, run_equalIn_ints w d under_id Try.underlying5 (by kernel_rfl) _ _ (by simp [ha]) (by simp [hb])]
  congr 1
  unfold ieq
  rw [Bool.eq_iff_iff, decide_eq_true_eq, decide_eq_true_eq]
  constructor
  · intro h
    refine (List.map_inj_right ?_).1 h
    intro x y e
    omega
  · intro h; rw [h]
theorem part_id (w : World) (xs : Array Value) (off : Nat) : (part 24 xs off).run Try.prog w = .ok (.agg (xs.extract off (off + 32))) w := by
  obtain ⟨i, hi, _, hs, _⟩ := info_id
  have hz : (sizeOf 24).run Try.prog w = .ok 32 w := by simp [sizeOf, typeInfo, hi, hs]
  have ha : (isAgg 24).run Try.prog w = .ok true w := by simp [isAgg, run_underlying under_id]
  unfold part
  simp [Sem.run_bind, ha, hz]
theorem ext_lo (a b : List Nat) (ha : a.length = 32) (hb : b.length = 32) : (iv (pair a b)).extract 0 (0 + 32) = iv a := by
  refine arr_ext ?_
  rw [Array.toList_extract]
  simp [iv, pair, ha, List.take_append, List.map_append]
theorem ext_hi (a b : List Nat) (ha : a.length = 32) (hb : b.length = 32) : (iv (pair a b)).extract 32 (32 + 32) = iv b := by
  refine arr_ext ?_
  rw [Array.toList_extract]
  simp only [iv, pair, ha, List.drop_append, List.map_append, List.extract]
  have h1 : (List.map (fun (c : Nat) => Value.int .u8 c) a).drop 32 = [] := List.drop_of_length_le (by simp [ha])
  simp [h1, ha]
  exact List.take_of_length_le (by simp [hb])
/-- Are two pairs the same? -/
def peq (p q : Idb × Idb) : Bool := ieq p.1.l q.1.l && ieq p.2.l q.2.l
theorem equal_pair (p q : Idb × Idb) (w : World) : (Op.equalIn 10000 54 (.agg (iv (pair p.1.l p.2.l))) (.agg (iv (pair q.1.l q.2.l)))).run Try.prog w = .ok (peq p q) w := by
  obtain ⟨i, hi, _, hs, _⟩ := info_id
  have hc : Try.prog.cellsOf 24 = 32 := by kernel_rfl
  rw [show (10000 : Nat) = 9999 + 1 from rfl, run_equalIn_array w 9999 _ _ under_pair hi, hc]
  have hr : List.range 2 = [0, 1] := rfl
  rw [hr]
  simp only [Op.eqItems, Sem.run_bind, part_id, Result.andThen_ok, Nat.zero_mul, Nat.one_mul, ext_lo _ _ p.1.len p.2.len, ext_lo _ _ q.1.len q.2.len, ext_hi _ _ p.1.len p.2.len, ext_hi _ _ q.1.len q.2.len]
  rw [show (9999 : Nat) = 9997 + 2 from rfl, equal_id' _ _ _ p.1.len q.1.len, Result.andThen_ok]
  unfold peq
  cases ieq p.1.l q.1.l
  · simp
  · simp only [if_true, Bool.not_true, Bool.false_eq_true, if_false, Sem.run_bind]
    simp only [part_id, Result.andThen_ok, ext_hi _ _ p.1.len p.2.len, ext_hi _ _ q.1.len q.2.len]
    rw [equal_id' _ _ _ p.2.len q.2.len, Result.andThen_ok]
    cases ieq p.2.l q.2.l <;> simp [Op.eqItems]
theorem idb_ext {a b : Idb} (h : a.l = b.l) : a = b := by cases a; cases b; cases h; rfl
theorem peq_iff (p q : Idb × Idb) : peq p q = true ↔ p = q := by
  unfold peq ieq
  rw [Bool.and_eq_true, decide_eq_true_eq, decide_eq_true_eq]
  constructor
  · rintro ⟨h1, h2⟩
    obtain ⟨p1, p2⟩ := p
    obtain ⟨q1, q2⟩ := q
    have e1 : p1 = q1 := idb_ext h1
    have e2 : p2 = q2 := idb_ext h2
    rw [e1, e2]
  · rintro rfl; exact ⟨rfl, rfl⟩
/-- The first step at which two climbs meet. -/
structure Meets (ss : List Nat) (x : Idb) (xs : List Idb) (y : Idb) (ys : List Idb) (K : Nat) : Prop where
  lt : K < ss.length
  hit : topk ss x xs (K + 1) = topk ss y ys (K + 1)
  apart : ∀ k, k ≤ K → topk ss x xs k ≠ topk ss y ys k
theorem meets_some (ss : List Nat) (x : Idb) (xs : List Idb) (y : Idb) (ys : List Idb) (hne : x ≠ y) (hx : ss.length = xs.length) (hy : ss.length = ys.length) (h : top ss x xs = top ss y ys) : ∃ K, Meets ss x xs y ys K := by
  have h0 : topk ss x xs 0 ≠ topk ss y ys 0 := by
    unfold topk
    simp only [List.take_zero]
    simpa [top] using hne
  have hS : topk ss x xs ss.length = topk ss y ys ss.length := by rw [(prsk_all ss x xs hx).2, (prsk_all ss y ys hy).2, h]
  have go : ∀ n, n ≤ ss.length → (∀ k, k ≤ n → topk ss x xs k ≠ topk ss y ys k) ∨ ∃ K, Meets ss x xs y ys K := by
    intro n
    induction n with
    | zero => exact fun _ => .inl fun k hk => by obtain rfl : k = 0 := by omega
                                                 exact h0
    | succ n ih =>
      intro hn
      rcases ih (by omega) with h1 | h1
      · by_cases he : topk ss x xs (n + 1) = topk ss y ys (n + 1)
        · exact .inr ⟨n, by omega, he, h1⟩
        · refine .inl fun k hk => ?_
          rcases Nat.lt_or_ge k (n + 1) with h2 | h2
          · exact h1 k (by omega)
          · obtain rfl : k = n + 1 := by omega
            exact he
      · exact .inr h1
  rcases go ss.length (Nat.le_refl _) with h1 | h1
  · exact absurd hS (h1 _ (Nat.le_refl _))
  · exact h1
/-- What Node sums at step 'k' of a climb. -/
def prk (ss : List Nat) (x : Idb) (xs : List Idb) (k : Nat) (s : Nat) (z : Idb) : Idb × Idb := pr s (topk ss x xs k) z
theorem pr_apart {s : Nat} (hs : s = 0 ∨ s = 1) {a b z u : Idb} (h : a ≠ b) : pr s a z ≠ pr s b u := by
  rcases hs with rfl | rfl
  · intro e; exact h (congrArg Prod.fst e)
  · intro e; exact h (congrArg Prod.snd e)
theorem prs_at (ss : List Nat) (x : Idb) (xs : List Idb) (k s : Nat) (z : Idb) (hl : ss.length = xs.length) (h1 : ss[k]? = some s) (h2 : xs[k]? = some z) : (prs ss x xs)[k]? = some (pr s (topk ss x xs k) z) := by
  have go : ∀ (n : Nat), n ≤ ss.length → k < n → (prsk ss x xs n)[k]? = some (pr s (topk ss x xs k) z) := by
    intro n
    induction n with
    | zero => intro _ h; omega
    | succ n ih =>
      intro hn hk
      obtain ⟨s', hs'⟩ : ∃ s', ss[n]? = some s' := ⟨_, List.getElem?_eq_getElem (by omega)⟩
      obtain ⟨z', hz'⟩ : ∃ s', xs[n]? = some s' := ⟨_, List.getElem?_eq_getElem (by omega)⟩
      have hst := (stepk ss x xs n s' z' hl hs' hz').1
      have hlen := prsk_len ss x xs n hl (by omega)
      rw [hst]
      rcases Nat.lt_or_ge k n with h | h
      · rw [List.getElem?_append_left (by omega)]
        exact ih (by omega) h
      · obtain rfl : k = n := by omega
        rw [List.getElem?_append_right (by omega), hlen, Nat.sub_self]
        rw [hs'] at h1
        rw [hz'] at h2
        cases h1; cases h2
        rfl
  have hk := (List.getElem?_eq_some_iff.1 h1).1
  have := go ss.length (Nat.le_refl _) hk
  rwa [(prsk_all ss x xs hl).1] at this
end Go.Proofs.Ytinkdkcmmjfhoaa
/- tree's Clash, where there is none. -/
namespace Go.Proofs.Ytinkdkcmmjfhoaa
set_option linter.unusedVariables false
set_option linter.unusedSimpArgs false
open Go.RowKit
theorem load_pairm {w : World} {b o : Nat} {p : Idb × Idb} (h : w.rangeAt b o (pcs p)) : (rowLoad 54 (.pointer (some ⟨b, o, none⟩))).run Try.prog w = .ok (.value (.agg (iv (pair p.1.l p.2.l)))) w := by
  unfold rowLoad
  rw [Sem.run_bind, run_loadAt_mid w b o 54 (pcs p) _ h under_pair rfl (by rw [pcs_len]; kernel_rfl)]
  rfl
theorem pcs_split (p : Idb × Idb) : pcs p = p.1.cs ++ p.2.cs := by unfold pcs Idb.cs; rw [pair, bys_append]
theorem range_lo {w : World} {b o : Nat} {p : Idb × Idb} (h : w.rangeAt b o (pcs p)) : w.rangeAt b o p.1.cs := fun j v hj => by
  refine h j v ?_
  rw [pcs_split, List.getElem?_append_left (List.getElem?_eq_some_iff.1 hj).1]
  exact hj
theorem range_hi {w : World} {b o : Nat} {p : Idb × Idb} (h : w.rangeAt b o (pcs p)) : w.rangeAt b (o + 32) p.2.cs := fun j v hj => by
  have := h (32 + j) v (by
    rw [pcs_split, List.getElem?_append_right (by rw [Idb.cs_len]; omega), Idb.cs_len, show 32 + j - 32 = j by omega]
    exact hj)
  rwa [← Nat.add_assoc] at this
@[go_sem] theorem guard_pair : Try.prog.eqGuardType Try.prog.depth 54 = false := by kernel_rfl
@[go_sem] theorem equal_pair' (a b c d : Idb) (w : World) : (Op.equalIn 10000 54 (.agg (iv (pair a.l b.l))) (.agg (iv (pair c.l d.l)))).run Try.prog w = .ok (peq (a, b) (c, d)) w := equal_pair (a, b) (c, d) w
theorem roots_of (l : List Idb) (v : Value) (w : World) (hl : l.length ≤ 1000000) (hs : ShowsI w v l) : ∀ W, Grew w W → Calls Try.prog 34 #[v] W fun e w' => e = .returned (.agg (iv (root l).l)) ∧ Grew W w' :=
  fun W g => root_w _ l v W (Nat.le_refl _) hl (hs.grew g)
/-- Is there something to tell? -/
structure ClashAt (ls : List Idb) (i : Int) (leaf : Idb) (xs : List Idb) (j : Nat) (x : Idb) : Prop where
  at_ : i = (j : Int)
  few : ls.length ≤ 64
  is : ls[j]? = some x
  other : leaf ≠ x
  checks : chk (root ls) (ls.length : Nat) (j : Nat) leaf xs = true
theorem clash_cases (ls : List Idb) (i : Int) (leaf : Idb) (xs : List Idb) : (∃ j x, ClashAt ls i leaf xs j x) ∨ (pathOk ls i = false ∨ ∃ (j : Nat) (x : Idb), i = j ∧ ls.length ≤ 64 ∧ ls[j]? = some x ∧ (leaf = x ∨ (leaf ≠ x ∧ chk (root ls) (ls.length : Nat) (j : Nat) leaf xs = false))) := by
  cases hp : pathOk ls i
  · exact .inr (.inl rfl)
  · have h := of_decide_eq_true hp
    obtain ⟨j, rfl⟩ : ∃ j : Nat, i = (j : Int) := ⟨i.toNat, by omega⟩
    obtain ⟨x, hx⟩ : ∃ x, ls[j]? = some x := ⟨_, List.getElem?_eq_getElem (by omega)⟩
    by_cases he : leaf = x
    · exact .inr (.inr ⟨j, x, rfl, h.1, hx, .inl he⟩)
    · cases hc : chk (root ls) (ls.length : Nat) (j : Nat) leaf xs
      · exact .inr (.inr ⟨j, x, rfl, h.1, hx, .inr ⟨he, hc⟩⟩)
      · exact .inl ⟨j, x, rfl, h.1, hx, he, hc⟩
theorem ieq_ne {a b : Idb} (h : a ≠ b) : ieq a.l b.l = false := decide_eq_false fun e => h (idb_ext e)
set_option maxRecDepth 100000 in
set_option maxHeartbeats 6400000 in
theorem clash_none (ls : List Idb) (i : Int) (leaf : Idb) (xs : List Idb) (v1 v2 : Value) (w : World) (h1 : ShowsI w v1 ls) (h2 : ShowsI w v2 xs) (hx : xs.length ≤ 1000000)
    (h : pathOk ls i = false ∨ ∃ (j : Nat) (x : Idb), i = j ∧ ls.length ≤ 64 ∧ ls[j]? = some x ∧ (leaf = x ∨ (leaf ≠ x ∧ chk (root ls) (ls.length : Nat) (j : Nat) leaf xs = false))) :
    Calls Try.prog 22 #[v1, .int .i64 i, .agg (iv leaf.l), v2] w fun e w' => e = .returned (.tuple #[.slice none 0 0, .slice none 0 0, .bool false]) ∧ Grew w w' := by
  obtain ⟨p1, c1, rfl⟩ := showsI_form h1
  obtain ⟨p2, c2, rfl⟩ := showsI_form h2
  have H1 := Lib.hid h1
  have H2 := Lib.hid h2
  clear h1 h2
  have hll := leaf.len
  have CP := Lib.hid (fun W (g : Grew w W) => path_w ls i (.slice p1 ls.length c1) W (H1.out.grew g))
  obtain ⟨N, hN⟩ : ∃ N, ls.length = N := ⟨_, rfl⟩
  have HN := Lib.hid hN
  have HX := Lib.hid hx
  clear hx
  rcases h with hp | ⟨j, x, rfl, hl, hxj, h⟩
  · rw [hp] at CP
    rw [hN] at CP ⊢
    clear hN hp
    go_enter Try.func22, Try.ntmps22
    go_wp2_with (go_at_call 28; refine stop_of ?_)
    unfold Stop
    refine (CP.out _ (by repeat (first | with_reducible exact Grew.refl _ | with_reducible apply Grew.alloc | with_reducible apply Grew.grow | with_reducible apply Grew.drew | with_reducible apply Grew.drewN))).mono ?_
    rintro e W1 ⟨v3, rfl, ho, hg⟩
    have GW := Lib.hid ((show Grew w _ from (by repeat (first | with_reducible exact Grew.refl _ | with_reducible apply Grew.alloc | with_reducible apply Grew.grow | with_reducible apply Grew.drew | with_reducible apply Grew.drewN))).trans hg)
    clear ho hg CP
    go_wp2
    refine wp_region_flow (by kernel_rfl) ?_
    intro δf
    apply wpFlow_quiets [0,1,2,3,4,5,6,7,8,9,10,11,12,13,14,15,16,17,18,19,20] (by decide +kernel) (by decide +kernel) (by kernel_rfl) (by intro _ _ _ d _ h; cases d <;> exact h) _
    · intro A hA δ'
      simp only [pickOps_cons, pickOps_nil, pick1_zero, pick1_succ]
      repeat (go_big_quiet_step ((fail)))
      exact wpQuiet_nil hA.out.symm
    refine wpFlow_end (by decide +kernel) (by kernel_rfl) ?_
    intro δf
    go_wp2
    go_ret3
    exact ⟨rfl, GW.out.trans (by repeat (first | with_reducible exact Grew.refl _ | with_reducible apply Grew.alloc | with_reducible apply Grew.grow | with_reducible apply Grew.drew | with_reducible apply Grew.drewN))⟩
  · have hj := (List.getElem?_eq_some_iff.1 hxj).1
    have hp : pathOk ls (j : Int) = true := decide_eq_true (by omega)
    have hxl := x.len
    rw [hp] at CP
    have hs := H1.out
    obtain ⟨b, o, rfl, _, hcc, hb, hat⟩ := showsI_some hs (by omega)
    have QL := Lib.hid (fun W (g : Grew w W) δ => load_idg (World.rangeAt.grew (hat j x hxj) g) δ)
    have CR := Lib.hid (roots_of ls _ w (by omega) hs)
    have CC := Lib.hid (fun W (g : Grew w W) => check_w (root ls) (ls.length : Nat) (j : Nat) leaf xs (.slice p2 xs.length c2) W (H2.out.grew g) HX.out)
    have hrl := (root ls).len
    rw [hN] at CP CR CC ⊢
    have hjN : (j : Int) < (N : Int) := by omega
    have hb2 : b < w.heap.size := hb
    rcases h with rfl | ⟨hne, hck⟩
    · have e1 : ieq leaf.l leaf.l = true := decide_eq_true rfl
      clear hN hp hs hat hxj hcc hj CC CR
      go_enter Try.func22, Try.ntmps22
      go_wp2_with (go_at_call 28; refine stop_of ?_)
      unfold Stop
      refine Calls_abs ?_
      intro X hX
      have gX : Grew w X := by rw [hX]; exact (by repeat (first | with_reducible exact Grew.refl _ | with_reducible apply Grew.alloc | with_reducible apply Grew.grow | with_reducible apply Grew.drew | with_reducible apply Grew.drewN))
      have rX : X.rowAt w.heap.size = iv leaf.l := by rw [hX]; simp [go_sem]
      have zX : w.heap.size < X.heap.size := by rw [hX]; simp
      clear hX
      refine (CP.out _ gX).mono ?_
      rintro e W1 ⟨v3, rfl, ho, hg⟩
      have r1 : W1.rowAt w.heap.size = iv leaf.l := by rw [Grew.rowAt hg _ zX]; exact rX
      have z1 : w.heap.size < W1.heap.size := Nat.lt_of_lt_of_le zX hg.size
      have GW := Lib.hid (gX.trans hg)
      have q1 := QL.out W1 GW.out
      clear ho hg CP gX rX zX QL
      go_wp2
      refine wp_region_flow (by kernel_rfl) ?_
      intro δf
      apply wpFlow_quiets [0,1,2,3,4,5,6,7,8,9,10,11,12,13,14,15,16,17,18,19,20] (by decide +kernel) (by decide +kernel) (by kernel_rfl) (by intro _ _ _ d _ h; cases d <;> exact h) _
      · intro A hA δ'
        simp only [pickOps_cons, pickOps_nil, pick1_zero, pick1_succ]
        repeat (go_big_quiet_step ((fail)))
        exact wpQuiet_nil hA.out.symm
      refine wpFlow_end (by decide +kernel) (by kernel_rfl) ?_
      intro δf
      go_wp2
      go_ret3
      exact ⟨rfl, GW.out.trans (by repeat (first | with_reducible exact Grew.refl _ | with_reducible apply Grew.alloc | with_reducible apply Grew.grow | with_reducible apply Grew.drew | with_reducible apply Grew.drewN))⟩
    · have e1 := ieq_ne hne
      rw [hN] at hck
      rw [hck] at CC
      obtain ⟨R, hR⟩ : ∃ R, root ls = R := ⟨_, rfl⟩
      rw [hR] at CR CC hrl
      clear hN hp hs hat hxj hcc hj hck hne hR
      go_enter Try.func22, Try.ntmps22
      go_wp2_with (go_at_call 28; refine stop_of ?_)
      unfold Stop
      refine Calls_abs ?_
      intro X hX
      have gX : Grew w X := by rw [hX]; exact (by repeat (first | with_reducible exact Grew.refl _ | with_reducible apply Grew.alloc | with_reducible apply Grew.grow | with_reducible apply Grew.drew | with_reducible apply Grew.drewN))
      have rX : X.rowAt w.heap.size = iv leaf.l := by rw [hX]; simp [go_sem]
      have zX : w.heap.size < X.heap.size := by rw [hX]; simp
      clear hX
      refine (CP.out _ gX).mono ?_
      rintro e W1 ⟨v3, rfl, ho, hg⟩
      have r1 : W1.rowAt w.heap.size = iv leaf.l := by rw [Grew.rowAt hg _ zX]; exact rX
      have z1 : w.heap.size < W1.heap.size := Nat.lt_of_lt_of_le zX hg.size
      have GW := Lib.hid (gX.trans hg)
      have q1 := QL.out W1 GW.out
      clear ho hg CP gX rX zX QL
      go_wp2
      refine wp_region_flow (by kernel_rfl) ?_
      intro δf
      apply wpFlow_quiets [0,1,2,3,4,5,6,7,8,9,10,11] (by decide +kernel) (by decide +kernel) (by kernel_rfl) (by intro _ _ _ d _ h; cases d <;> exact h) _
      · intro A hA δ'
        simp only [pickOps_cons, pickOps_nil, pick1_zero, pick1_succ]
        repeat (go_big_quiet_step ((fail)))
        exact wpQuiet_nil hA.out.symm
      apply wpFlow_quiets [12] (by decide +kernel) (by decide +kernel) (by kernel_rfl) (by intro _ _ _ d _ h; cases d <;> exact h) _
      · intro A hA δ'
        simp only [pickOps_cons, pickOps_nil, pick1_zero, pick1_succ]
        repeat (go_big_quiet_step ((go_at_call 34; (with_reducible first | exact Calls.pure_of_g3 (CR.out _ (GW.out.trans (by repeat (first | with_reducible exact Grew.refl _ | with_reducible apply Grew.alloc | with_reducible apply Grew.grow | with_reducible apply Grew.drew | with_reducible apply Grew.drewN)))) | exact Calls.pure_of_g4 (CR.out _ (GW.out.trans (by repeat (first | with_reducible exact Grew.refl _ | with_reducible apply Grew.alloc | with_reducible apply Grew.grow | with_reducible apply Grew.drew | with_reducible apply Grew.drewN)))) | exact Calls.pure_of_g (CR.out _ (GW.out.trans (by repeat (first | with_reducible exact Grew.refl _ | with_reducible apply Grew.alloc | with_reducible apply Grew.grow | with_reducible apply Grew.drew | with_reducible apply Grew.drewN)))) | exact Calls.pure_of_g5 (CR.out _ (GW.out.trans (by repeat (first | with_reducible exact Grew.refl _ | with_reducible apply Grew.alloc | with_reducible apply Grew.grow | with_reducible apply Grew.drew | with_reducible apply Grew.drewN))))))))
        exact wpQuiet_nil hA.out.symm
      apply wpFlow_quiets [13,14,15,16,17] (by decide +kernel) (by decide +kernel) (by kernel_rfl) (by intro _ _ _ d _ h; cases d <;> exact h) _
      · intro A hA δ'
        simp only [pickOps_cons, pickOps_nil, pick1_zero, pick1_succ]
        repeat (go_big_quiet_step ((fail)))
        exact wpQuiet_nil hA.out.symm
      apply wpFlow_quiets [18] (by decide +kernel) (by decide +kernel) (by kernel_rfl) (by intro _ _ _ d _ h; cases d <;> exact h) _
      · intro A hA δ'
        simp only [pickOps_cons, pickOps_nil, pick1_zero, pick1_succ]
        repeat (go_big_quiet_step ((go_at_call 35; (with_reducible first | exact Calls.pure_of_g3 (CC.out _ (GW.out.trans (by repeat (first | with_reducible exact Grew.refl _ | with_reducible apply Grew.alloc | with_reducible apply Grew.grow | with_reducible apply Grew.drew | with_reducible apply Grew.drewN)))) | exact Calls.pure_of_g4 (CC.out _ (GW.out.trans (by repeat (first | with_reducible exact Grew.refl _ | with_reducible apply Grew.alloc | with_reducible apply Grew.grow | with_reducible apply Grew.drew | with_reducible apply Grew.drewN)))) | exact Calls.pure_of_g (CC.out _ (GW.out.trans (by repeat (first | with_reducible exact Grew.refl _ | with_reducible apply Grew.alloc | with_reducible apply Grew.grow | with_reducible apply Grew.drew | with_reducible apply Grew.drewN)))) | exact Calls.pure_of_g5 (CC.out _ (GW.out.trans (by repeat (first | with_reducible exact Grew.refl _ | with_reducible apply Grew.alloc | with_reducible apply Grew.grow | with_reducible apply Grew.drew | with_reducible apply Grew.drewN))))))))
        exact wpQuiet_nil hA.out.symm
      apply wpFlow_quiets [19,20] (by decide +kernel) (by decide +kernel) (by kernel_rfl) (by intro _ _ _ d _ h; cases d <;> exact h) _
      · intro A hA δ'
        simp only [pickOps_cons, pickOps_nil, pick1_zero, pick1_succ]
        repeat (go_big_quiet_step ((fail)))
        exact wpQuiet_nil hA.out.symm
      refine wpFlow_end (by decide +kernel) (by kernel_rfl) ?_
      intro δf
      go_wp2
      go_ret3
      exact ⟨rfl, GW.out.trans (by repeat (first | with_reducible exact Grew.refl _ | with_reducible apply Grew.alloc | with_reducible apply Grew.grow | with_reducible apply Grew.drew | with_reducible apply Grew.drewN))⟩
end Go.Proofs.Ytinkdkcmmjfhoaa
/- tree's Clash, where there is one. -/
namespace Go.Proofs.Ytinkdkcmmjfhoaa
set_option linter.unusedVariables false
set_option linter.unusedSimpArgs false
open Go.RowKit
def txt (p : Idb × Idb) : List Nat := textL p.1.l p.2.l
theorem text_shp (p : Idb × Idb) (w : World) : Calls Try.prog 42 #[.agg (iv (pair p.1.l p.2.l))] w fun e w' => ∃ v, e = .returned v ∧ Shows w' v (bys (txt p)) ∧ Grew w w' := text_sh p.1 p.2 w
/-- What is known at step 'k'. -/
theorem clash_step {ss : List Nat} {x y : Idb} {xs ys : List Idb} {K : Nat} (hm : Meets ss x xs y ys K) (hs : ∀ s ∈ ss, s = 0 ∨ s = 1) (hx : ss.length = xs.length) (hy : ss.length = ys.length) (k : Nat) (hk : k ≤ K) :
    ∃ (s : Nat) (z u : Idb) (p q : Idb × Idb), ss[k]? = some s ∧ (s = 0 ∨ s = 1) ∧ xs[k]? = some z ∧ ys[k]? = some u ∧ p = pr s (topk ss x xs k) z ∧ q = pr s (topk ss y ys k) u ∧ (prs ss x xs)[k]? = some p ∧ (prs ss y ys)[k]? = some q ∧ peq p q = false ∧
      ieq (p.1.node p.2).l (q.1.node q.2).l = decide (k = K) := by
  have hlt := hm.lt
  obtain ⟨s, hsk⟩ : ∃ s, ss[k]? = some s := ⟨_, List.getElem?_eq_getElem (by omega)⟩
  obtain ⟨z, hz⟩ : ∃ s, xs[k]? = some s := ⟨_, List.getElem?_eq_getElem (by omega)⟩
  obtain ⟨u, hu⟩ : ∃ s, ys[k]? = some s := ⟨_, List.getElem?_eq_getElem (by omega)⟩
  have h01 := hs s (List.mem_of_getElem? hsk)
  have hne := pr_apart (z := z) (u := u) h01 (hm.apart k hk)
  refine ⟨s, z, u, _, _, hsk, h01, hz, hu, rfl, rfl, prs_at ss x xs k s z hx hsk hz, prs_at ss y ys k s u hy hsk hu, ?_, ?_⟩
  · cases h : peq (pr s (topk ss x xs k) z) (pr s (topk ss y ys k) u)
    · rfl
    · exact absurd ((peq_iff _ _).1 h) hne
  · have e1 := (stepk ss x xs k s z hx hsk hz).2
    have e2 := (stepk ss y ys k s u hy hsk hu).2
    unfold nodeP at e1 e2
    rw [← e1, ← e2]
    by_cases h : k = K
    · subst h
      rw [hm.hit, decide_eq_true rfl]
      exact decide_eq_true rfl
    · rw [decide_eq_false h]
      exact ieq_ne (hm.apart (k + 1) (by omega))
set_option maxRecDepth 100000 in
set_option maxHeartbeats 6400000 in
theorem clash_yes (ls : List Idb) (i : Int) (leaf : Idb) (xs : List Idb) (j : Nat) (x : Idb) (K : Nat) (hc : ClashAt ls i leaf xs j x) (hm : Meets (side ls.length j).reverse leaf xs x (path ls j) K) (hxs : (side ls.length j).reverse.length = xs.length)
    (p q : Idb × Idb) (hp : (prs (side ls.length j).reverse leaf xs)[K]? = some p) (hq : (prs (side ls.length j).reverse x (path ls j))[K]? = some q) (v1 v2 : Value) (w : World) (h1 : ShowsI w v1 ls) (h2 : ShowsI w v2 xs) :
    Calls Try.prog 22 #[v1, .int .i64 i, .agg (iv leaf.l), v2] w fun e w' => ∃ va vb, e = .returned (.tuple #[va, vb, .bool true]) ∧ Shows w' va (bys (txt p)) ∧ Shows w' vb (bys (txt q)) ∧ Grew w w' := by
  obtain ⟨rfl, hl, hxj, hne, hck⟩ := hc
  obtain ⟨p1, c1, rfl⟩ := showsI_form h1
  obtain ⟨p2, c2, rfl⟩ := showsI_form h2
  have H1 := Lib.hid h1
  have H2 := Lib.hid h2
  clear h1 h2
  have hll := leaf.len
  have hj := (List.getElem?_eq_some_iff.1 hxj).1
  have hpo : pathOk ls (j : Int) = true := decide_eq_true (by omega)
  have hof : pathOf ls (j : Int) = path ls j := by unfold pathOf; rw [if_pos hpo]; rfl
  have CP := Lib.hid (fun W (g : Grew w W) => path_w ls j (.slice p1 ls.length c1) W (H1.out.grew g))
  rw [hpo, hof] at CP
  have hpl := path_len ls j (by omega)
  have hxl := x.len
  have hs := H1.out
  obtain ⟨b, o, rfl, _, hcc, hb, hat⟩ := showsI_some hs (by omega)
  have QL := Lib.hid (fun W (g : Grew w W) δ => load_idg (World.rangeAt.grew (hat j x hxj) g) δ)
  have QM := Lib.hid (fun W (g : Grew w W) => load_idm (World.rangeAt.grew (hat j x hxj) g))
  have CR := Lib.hid (roots_of ls _ w (by omega) hs)
  have hslen := side_len ls.length j (by omega) (by omega)
  have hxs2 : xs.length < 64 := by rw [← hxs, List.length_reverse]; omega
  have CC := Lib.hid (fun W (g : Grew w W) => check_w (root ls) (ls.length : Nat) (j : Nat) leaf xs (.slice p2 xs.length c2) W (H2.out.grew g) (by omega))
  rw [hck] at CC
  have CS := Lib.hid (fun W => sides_w ls.length j (by omega) (by omega) hj W)
  have hrl := (root ls).len
  have h01 := side_01 ls.length j
  obtain ⟨R, hR⟩ : ∃ R, root ls = R := ⟨_, rfl⟩
  rw [hR] at CR CC hrl
  obtain ⟨ys, hys⟩ : ∃ ys, path ls j = ys := ⟨_, rfl⟩
  rw [hys] at CP hm hq hpl
  have hpl : ys.length = (side ls.length j).reverse.length := by rw [List.length_reverse]; exact hpl
  have hslen : (side ls.length j).reverse.length < ls.length := by rw [List.length_reverse]; exact hslen
  obtain ⟨ss, hss⟩ : ∃ ss, (side ls.length j).reverse = ss := ⟨_, rfl⟩
  rw [hss] at CS hm hp hq hxs h01 hpl hslen
  obtain ⟨N, hN⟩ : ∃ N, ls.length = N := ⟨_, rfl⟩
  rw [hN] at CP CR CC CS ⊢
  have hjN : (j : Int) < (N : Int) := by omega
  have e1 := ieq_ne hne
  have STEP := Lib.hid (fun k hk => clash_step hm h01 hxs hpl.symm k hk)
  have hKS := hm.lt
  obtain ⟨S, hS⟩ : ∃ S, ss.length = S := ⟨_, rfl⟩
  have HSl := Lib.hid hS
  have PA := Lib.hid (fun W v1 v2 (a : Shows W v1 (ivs ss)) (b : ShowsI W v2 xs) => pairs_w ss leaf xs v1 v2 W h01 hxs (by omega) a b)
  have PB := Lib.hid (fun W v1 v2 (a : Shows W v1 (ivs ss)) (b : ShowsI W v2 ys) => pairs_w ss x ys v1 v2 W h01 hpl.symm (by omega) a b)
  have TA := (top ss leaf xs).len
  have TB := (top ss x ys).len
  have PL1 := Lib.hid (prs_len ss leaf xs hxs)
  have PL2 := Lib.hid (prs_len ss x ys hpl.symm)
  have HP := Lib.hid hp
  have HQ := Lib.hid hq
  obtain ⟨tA, hA⟩ : ∃ t, top ss leaf xs = t := ⟨_, rfl⟩
  obtain ⟨tB, hB⟩ : ∃ t, top ss x ys = t := ⟨_, rfl⟩
  rw [hA] at PA TA
  rw [hB] at PB TB
  have hSI : (S : Int) < 64 := by omega
  have hb2 : b < w.heap.size := hb
  rw [hS] at hKS
  clear hN hpo hs hat hxj hcc hj hck hne hR hys hss hm hS hxs hpl hslen h01 hof hp hq hA hB hb
  go_enter Try.func22, Try.ntmps22
  go_wp2_with (go_at_call 28; refine stop_of ?_)
  unfold Stop
  refine Calls_abs ?_
  intro X hX
  have gX : Grew w X := by rw [hX]; exact (by repeat (first | with_reducible exact Grew.refl _ | with_reducible apply Grew.alloc | with_reducible apply Grew.grow | with_reducible apply Grew.drew | with_reducible apply Grew.drewN))
  have rX : X.rowAt w.heap.size = iv leaf.l := by rw [hX]; simp [go_sem]
  have zX : w.heap.size < X.heap.size := by rw [hX]; simp
  clear hX
  refine (CP.out _ gX).mono ?_
  rintro e W1 ⟨v3, rfl, ho, hg⟩
  have r1 : W1.rowAt w.heap.size = iv leaf.l := by rw [Grew.rowAt hg _ zX]; exact rX
  have z1 : w.heap.size < W1.heap.size := Nat.lt_of_lt_of_le zX hg.size
  have GW := Lib.hid (gX.trans hg)
  have q1 := QL.out W1 GW.out
  have HY := Lib.hid (ho.shows Idb.cs_len)
  clear ho hg CP gX rX zX
  go_wp2
  refine wp_region_flow (by kernel_rfl) ?_
  intro δf
  apply wpFlow_quiets [0,1,2,3,4,5,6,7,8,9,10,11] (by decide +kernel) (by decide +kernel) (by kernel_rfl) (by intro _ _ _ d _ h; cases d <;> exact h) _
  · intro A hA δ'
    simp only [pickOps_cons, pickOps_nil, pick1_zero, pick1_succ]
    repeat (go_big_quiet_step ((fail)))
    exact wpQuiet_nil hA.out.symm
  apply wpFlow_quiets [12] (by decide +kernel) (by decide +kernel) (by kernel_rfl) (by intro _ _ _ d _ h; cases d <;> exact h) _
  · intro A hA δ'
    simp only [pickOps_cons, pickOps_nil, pick1_zero, pick1_succ]
    repeat (go_big_quiet_step ((go_at_call 34; (with_reducible first | exact Calls.pure_of_g3 (CR.out _ (GW.out.trans (by repeat (first | with_reducible exact Grew.refl _ | with_reducible apply Grew.alloc | with_reducible apply Grew.grow | with_reducible apply Grew.drew | with_reducible apply Grew.drewN)))) | exact Calls.pure_of_g4 (CR.out _ (GW.out.trans (by repeat (first | with_reducible exact Grew.refl _ | with_reducible apply Grew.alloc | with_reducible apply Grew.grow | with_reducible apply Grew.drew | with_reducible apply Grew.drewN)))) | exact Calls.pure_of_g (CR.out _ (GW.out.trans (by repeat (first | with_reducible exact Grew.refl _ | with_reducible apply Grew.alloc | with_reducible apply Grew.grow | with_reducible apply Grew.drew | with_reducible apply Grew.drewN)))) | exact Calls.pure_of_g5 (CR.out _ (GW.out.trans (by repeat (first | with_reducible exact Grew.refl _ | with_reducible apply Grew.alloc | with_reducible apply Grew.grow | with_reducible apply Grew.drew | with_reducible apply Grew.drewN))))))))
    exact wpQuiet_nil hA.out.symm
  apply wpFlow_quiets [13,14,15,16,17] (by decide +kernel) (by decide +kernel) (by kernel_rfl) (by intro _ _ _ d _ h; cases d <;> exact h) _
  · intro A hA δ'
    simp only [pickOps_cons, pickOps_nil, pick1_zero, pick1_succ]
    repeat (go_big_quiet_step ((fail)))
    exact wpQuiet_nil hA.out.symm
  apply wpFlow_quiets [18] (by decide +kernel) (by decide +kernel) (by kernel_rfl) (by intro _ _ _ d _ h; cases d <;> exact h) _
  · intro A hA δ'
    simp only [pickOps_cons, pickOps_nil, pick1_zero, pick1_succ]
    repeat (go_big_quiet_step ((go_at_call 35; (with_reducible first | exact Calls.pure_of_g3 (CC.out _ (GW.out.trans (by repeat (first | with_reducible exact Grew.refl _ | with_reducible apply Grew.alloc | with_reducible apply Grew.grow | with_reducible apply Grew.drew | with_reducible apply Grew.drewN)))) | exact Calls.pure_of_g4 (CC.out _ (GW.out.trans (by repeat (first | with_reducible exact Grew.refl _ | with_reducible apply Grew.alloc | with_reducible apply Grew.grow | with_reducible apply Grew.drew | with_reducible apply Grew.drewN)))) | exact Calls.pure_of_g (CC.out _ (GW.out.trans (by repeat (first | with_reducible exact Grew.refl _ | with_reducible apply Grew.alloc | with_reducible apply Grew.grow | with_reducible apply Grew.drew | with_reducible apply Grew.drewN)))) | exact Calls.pure_of_g5 (CC.out _ (GW.out.trans (by repeat (first | with_reducible exact Grew.refl _ | with_reducible apply Grew.alloc | with_reducible apply Grew.grow | with_reducible apply Grew.drew | with_reducible apply Grew.drewN))))))))
    exact wpQuiet_nil hA.out.symm
  apply wpFlow_quiets [19,20] (by decide +kernel) (by decide +kernel) (by kernel_rfl) (by intro _ _ _ d _ h; cases d <;> exact h) _
  · intro A hA δ'
    simp only [pickOps_cons, pickOps_nil, pick1_zero, pick1_succ]
    repeat (go_big_quiet_step ((fail)))
    exact wpQuiet_nil hA.out.symm
  refine wpFlow_end (by decide +kernel) (by kernel_rfl) ?_
  intro δf
  clear CR CC
  go_wp2_with (go_at_call 39; refine stop_of ?_)
  unfold Stop
  refine Calls_abs ?_
  intro X hX
  have gX : Grew W1 X := by rw [hX]; exact (by repeat (first | with_reducible exact Grew.refl _ | with_reducible apply Grew.alloc | with_reducible apply Grew.grow | with_reducible apply Grew.drew | with_reducible apply Grew.drewN))
  refine (CS.out X).mono ?_
  rintro e W2 ⟨v4, rfl, ho, hg⟩
  obtain ⟨p4, c4, rfl⟩ := shows_form ho.shows
  have g2 : Grew W1 W2 := gX.trans hg
  have r2 : W2.rowAt w.heap.size = iv leaf.l := by rw [Grew.rowAt g2 _ z1]; exact r1
  have z2 : w.heap.size < W2.heap.size := Nat.lt_of_lt_of_le z1 g2.size
  have H4 := Lib.hid ho.shows
  rw [ivs_len, HSl.out] at H4 ⊢
  have GW2 := Lib.hid (GW.out.trans g2)
  have HY2 := Lib.hid (HY.out.grew g2)
  clear ho hg hX gX g2 CS q1 GW HY r1 z1
  go_wp2_with (go_at_call 40; refine stop_of ?_)
  unfold Stop
  refine Calls_abs ?_
  intro X hX
  have gX : Grew W2 X := by rw [hX]; exact (by repeat (first | with_reducible exact Grew.refl _ | with_reducible apply Grew.alloc | with_reducible apply Grew.grow | with_reducible apply Grew.drew | with_reducible apply Grew.drewN))
  refine (PA.out X _ _ (H4.out.grew gX) (H2.out.grew (GW2.out.trans gX))).mono ?_
  rintro e W3 ⟨v5, rfl, ho, hg⟩
  have hlen := PL1.out
  rw [HSl.out] at hlen
  obtain ⟨g1, cap1, hv, hgb, hgs, hcap⟩ := (ho.form).resolve_left (by rintro ⟨_, h⟩; rw [h] at hlen; simp at hlen; omega)
  rw [hlen] at hv hcap
  subst hv
  have g3 : Grew W2 W3 := gX.trans hg
  have HA := Lib.hid ho
  have GW3 := Lib.hid (GW2.out.trans g3)
  have HY3 := Lib.hid (HY2.out.grew g3)
  have H43 := Lib.hid (H4.out.grew g3)
  have q3 : ∀ C t, (rowLoad 24 (.pointer (some ⟨b, o + j * 32, none⟩))).run Try.prog (W3.alloc (.cells C t)) = .ok (.value (.agg (iv x.l))) (W3.alloc (.cells C t)) := fun C t => QM.out _ (GW3.out.trans (by repeat (first | with_reducible exact Grew.refl _ | with_reducible apply Grew.alloc | with_reducible apply Grew.grow | with_reducible apply Grew.drew | with_reducible apply Grew.drewN)))
  clear ho hg hX gX g3 r2 z2 GW2 HY2 hgb hlen PA
  go_wp2_with (go_at_call 40; refine stop_of ?_)
  unfold Stop
  refine Calls_abs ?_
  intro X hX
  have gX : Grew W3 X := by rw [hX]; exact (by repeat (first | with_reducible exact Grew.refl _ | with_reducible apply Grew.alloc | with_reducible apply Grew.grow | with_reducible apply Grew.drew | with_reducible apply Grew.drewN))
  refine (PB.out X _ _ (H43.out.grew gX) (HY3.out.grew gX)).mono ?_
  rintro e W4 ⟨v6, rfl, ho, hg⟩
  have hlen := PL2.out
  rw [HSl.out] at hlen
  obtain ⟨g2, cap2, hv, hgb, hgs2, hcap2⟩ := (ho.form).resolve_left (by rintro ⟨_, h⟩; rw [h] at hlen; simp at hlen; omega)
  rw [hlen] at hv hcap2
  subst hv
  have g4 : Grew W3 W4 := gX.trans hg
  have HA4 := Lib.hid (HA.out.grew g4)
  have HB4 := Lib.hid ho
  have GW4 := Lib.hid (GW3.out.trans g4)
  clear ho hg hX gX g4 q3 HA GW3 HY3 H43 hgb hlen PB H4 PL1 PL2 hgs QL QM
  clear H1 H2 hll hxl TA hslen hxs2 hrl e1 hl hpl
  go_wp2
  refine code_abs ?_
  intro V hV
  have gV : Grew W4 V := by rw [hV]; exact (by repeat (first | with_reducible exact Grew.refl _ | with_reducible apply Grew.alloc | with_reducible apply Grew.grow | with_reducible apply Grew.drew | with_reducible apply Grew.drewN))
  have HAV := Lib.hid (HA4.out.grew gV)
  have HBV := Lib.hid (HB4.out.grew gV)
  have GV := Lib.hid (GW4.out.trans gV)
  clear hV gV HA4 HB4 GW4 hgs2 hb2
  go_loopw [69] (fun i wr => ∃ k : Nat, k ≤ K ∧ i = .int .i64 k ∧ Grew V wr) (fun i _ => K + 1 - (intOf i).toNat)
  case atStart => exact ⟨0, by omega, rfl, Grew.refl _⟩
  case round =>
    obtain ⟨k, hk, rfl, gk⟩ := hrel
    obtain ⟨s, z, u, ⟨a1, a2⟩, ⟨b1, b2⟩, y1, y2, y3, y4, y5, y6, hpa, hpb, hne, hno⟩ := STEP.out k hk
    clear y1 y2 y3 y4 y5 y6
    have ra := OwnE.range pcs_len (HAV.out.grew gk) k _ hpa
    have rb := OwnE.range pcs_len (HBV.out.grew gk) k _ hpb
    have hkS : (k : Int) < (S : Int) := by omega
    have hc1 : (S : Int) ≤ (cap1 : Int) := by omega
    have hc2 : (S : Int) ≤ (cap2 : Int) := by omega
    have HK := Lib.hid hk
    have GK := Lib.hid (GV.out.trans gk)
    have gkk := Lib.hid gk
    have l1 : ∀ δ, (rowLoad 54 (.pointer (some ⟨g1, k * 64, none⟩))).run Try.prog (wr.grow δ) = .ok (.value (.agg (iv (pair a1.l a2.l)))) (wr.grow δ) := fun δ => load_pairm (p := (a1, a2)) (World.rangeAt.grew ra ⟨δ, rfl⟩)
    have l2 : ∀ δ, (rowLoad 54 (.pointer (some ⟨g2, k * 64, none⟩))).run Try.prog (wr.grow δ) = .ok (.value (.agg (iv (pair b1.l b2.l)))) (wr.grow δ) := fun δ => load_pairm (p := (b1, b2)) (World.rangeAt.grew rb ⟨δ, rfl⟩)
    have l3 : ∀ δ, (rowLoad 24 (.pointer (some ⟨g1, k * 64, none⟩))).run Try.prog (wr.grow δ) = .ok (.value (.agg (iv a1.l))) (wr.grow δ) := fun δ => load_idm (x := a1) (World.rangeAt.grew (range_lo ra) ⟨δ, rfl⟩)
    have l4 : ∀ δ, (rowLoad 24 (.pointer (some ⟨g1, k * 64 + 32, none⟩))).run Try.prog (wr.grow δ) = .ok (.value (.agg (iv a2.l))) (wr.grow δ) := fun δ => load_idm (x := a2) (World.rangeAt.grew (range_hi ra) ⟨δ, rfl⟩)
    have l5 : ∀ δ, (rowLoad 24 (.pointer (some ⟨g2, k * 64, none⟩))).run Try.prog (wr.grow δ) = .ok (.value (.agg (iv b1.l))) (wr.grow δ) := fun δ => load_idm (x := b1) (World.rangeAt.grew (range_lo rb) ⟨δ, rfl⟩)
    have l6 : ∀ δ, (rowLoad 24 (.pointer (some ⟨g2, k * 64 + 32, none⟩))).run Try.prog (wr.grow δ) = .ok (.value (.agg (iv b2.l))) (wr.grow δ) := fun δ => load_idm (x := b2) (World.rangeAt.grew (range_hi rb) ⟨δ, rfl⟩)
    have n1 := (a1.node a2).len
    have n2 := (b1.node b2).len
    clear ra rb gk
    by_cases hkK : k = K
    · rw [decide_eq_true hkK] at hno
      subst hkK
      have hp' : p = (a1, a2) := by have := HP.out; rw [hpa] at this; exact (Option.some.inj this).symm
      have hq' : q = (b1, b2) := by have := HQ.out; rw [hpb] at this; exact (Option.some.inj this).symm
      subst hp' hq'
      clear hpa hpb hk
      go_wp2
      refine wp_region_flow (by kernel_rfl) ?_
      intro δf
      apply wpFlow_quiets [0,1,2,3,4,5,6,7,8,9,10,11,12,13,14,15,16,17,18,19] (by decide +kernel) (by decide +kernel) (by kernel_rfl) (by intro _ _ _ d _ h; cases d <;> exact h) _
      · intro A hA δ'
        simp only [pickOps_cons, pickOps_nil, pick1_zero, pick1_succ]
        repeat (go_big_quiet_step ((fail)))
        exact wpQuiet_nil hA.out.symm
      apply wpFlow_quiets [20] (by decide +kernel) (by decide +kernel) (by kernel_rfl) (by intro _ _ _ d _ h; cases d <;> exact h) _
      · intro A hA δ'
        simp only [pickOps_cons, pickOps_nil, pick1_zero, pick1_succ]
        repeat (go_big_quiet_step ((go_at_call 41; (with_reducible first | exact Calls.pure_of_g3 (node_w a1 a2 _) | exact Calls.pure_of_g4 (node_w a1 a2 _) | exact Calls.pure_of_g (node_w a1 a2 _) | exact Calls.pure_of_g5 (node_w a1 a2 _)))))
        exact wpQuiet_nil hA.out.symm
      apply wpFlow_quiets [21,22,23,24,25,26,27,28,29,30] (by decide +kernel) (by decide +kernel) (by kernel_rfl) (by intro _ _ _ d _ h; cases d <;> exact h) _
      · intro A hA δ'
        simp only [pickOps_cons, pickOps_nil, pick1_zero, pick1_succ]
        repeat (go_big_quiet_step ((fail)))
        exact wpQuiet_nil hA.out.symm
      apply wpFlow_quiets [31] (by decide +kernel) (by decide +kernel) (by kernel_rfl) (by intro _ _ _ d _ h; cases d <;> exact h) _
      · intro A hA δ'
        simp only [pickOps_cons, pickOps_nil, pick1_zero, pick1_succ]
        repeat (go_big_quiet_step ((go_at_call 41; (with_reducible first | exact Calls.pure_of_g3 (node_w b1 b2 _) | exact Calls.pure_of_g4 (node_w b1 b2 _) | exact Calls.pure_of_g (node_w b1 b2 _) | exact Calls.pure_of_g5 (node_w b1 b2 _)))))
        exact wpQuiet_nil hA.out.symm
      apply wpFlow_quiets [32,33] (by decide +kernel) (by decide +kernel) (by kernel_rfl) (by intro _ _ _ d _ h; cases d <;> exact h) _
      · intro A hA δ'
        simp only [pickOps_cons, pickOps_nil, pick1_zero, pick1_succ]
        repeat (go_big_quiet_step ((fail)))
        exact wpQuiet_nil hA.out.symm
      refine wpFlow_end (by decide +kernel) (by kernel_rfl) ?_
      intro δf
      clear n1 n2 hne hno l3 l4 l5 l6
      go_wp2
      refine wp_region_flow (by kernel_rfl) ?_
      intro δf
      apply wpFlow_quiets [0,1,2,3,5,6,7,8] (by decide +kernel) (by decide +kernel) (by kernel_rfl) (by intro _ _ _ d _ h; cases d <;> exact h) _
      · intro A hA δ'
        simp only [pickOps_cons, pickOps_nil, pick1_zero, pick1_succ]
        repeat (go_big_quiet_step ((fail)))
        exact wpQuiet_nil hA.out.symm
      refine wpFlow_one 4 (by decide +kernel) (by kernel_rfl) (by kernel_rfl) ?_
      refine wpFlowS_intro ?_
      simp only [pickOps_cons, pickOps_nil, pick1_zero, pick1_succ]
      intro δf
      go_wp2_with (go_at_call 42; refine (text_shp (a1, a2) _).mono ?_; rintro e w5 ⟨v5, rfl, hs5, hg5⟩)
      refine ⟨(by first | assumption | (simp only [grow_grow, Array.append_assoc]; assumption) | exact Grew.refl _ | (simp only [grow_grow, Array.append_assoc]; exact (by repeat (first | with_reducible exact Grew.refl _ | with_reducible apply Grew.alloc | with_reducible apply Grew.grow | with_reducible apply Grew.drew | with_reducible apply Grew.drewN))) | exact (by repeat (first | with_reducible exact Grew.refl _ | with_reducible apply Grew.alloc | with_reducible apply Grew.grow | with_reducible apply Grew.drew | with_reducible apply Grew.drewN))), ?_⟩
      have g5 : Grew wr w5 := (show Grew wr _ from (by repeat (first | with_reducible exact Grew.refl _ | with_reducible apply Grew.alloc | with_reducible apply Grew.grow | with_reducible apply Grew.drew | with_reducible apply Grew.drewN))).trans hg5
      have G5 := Lib.hid g5
      have HS5 := Lib.hid hs5
      clear hg5 hs5 g5
      refine wpFlow_one 9 (by decide +kernel) (by kernel_rfl) (by kernel_rfl) ?_
      refine wpFlowS_intro ?_
      simp only [pickOps_cons, pickOps_nil, pick1_zero, pick1_succ]
      intro δf
      go_wp2_with (go_at_call 42; refine (text_shp (b1, b2) _).mono ?_; rintro e w6 ⟨v6, rfl, hs6, hg6⟩)
      refine ⟨(by first | assumption | (simp only [grow_grow, Array.append_assoc]; assumption) | exact Grew.refl _ | (simp only [grow_grow, Array.append_assoc]; exact (by repeat (first | with_reducible exact Grew.refl _ | with_reducible apply Grew.alloc | with_reducible apply Grew.grow | with_reducible apply Grew.drew | with_reducible apply Grew.drewN))) | exact (by repeat (first | with_reducible exact Grew.refl _ | with_reducible apply Grew.alloc | with_reducible apply Grew.grow | with_reducible apply Grew.drew | with_reducible apply Grew.drewN))), ?_⟩
      have g6 : Grew w5 w6 := (show Grew w5 _ from (by repeat (first | with_reducible exact Grew.refl _ | with_reducible apply Grew.alloc | with_reducible apply Grew.grow | with_reducible apply Grew.drew | with_reducible apply Grew.drewN))).trans hg6
      have G6 := Lib.hid g6
      have HS6 := Lib.hid hs6
      clear hg6 hs6 g6
      apply wpFlow_quiets [10,11,12] (by decide +kernel) (by decide +kernel) (by kernel_rfl) (by intro _ _ _ d _ h; cases d <;> exact h) _
      · intro A hA δ'
        simp only [pickOps_cons, pickOps_nil, pick1_zero, pick1_succ]
        repeat (go_big_quiet_step ((fail)))
        exact wpQuiet_nil hA.out.symm
      refine wpFlow_end (by decide +kernel) (by kernel_rfl) ?_
      intro δf
      go_wp2
      go_ret3
      exact ⟨_, _, rfl, HS5.out.grew (G6.out.trans (by repeat (first | with_reducible exact Grew.refl _ | with_reducible apply Grew.alloc | with_reducible apply Grew.grow | with_reducible apply Grew.drew | with_reducible apply Grew.drewN))), HS6.out.grew (by repeat (first | with_reducible exact Grew.refl _ | with_reducible apply Grew.alloc | with_reducible apply Grew.grow | with_reducible apply Grew.drew | with_reducible apply Grew.drewN)), GK.out.trans (G5.out.trans (G6.out.trans (by repeat (first | with_reducible exact Grew.refl _ | with_reducible apply Grew.alloc | with_reducible apply Grew.grow | with_reducible apply Grew.drew | with_reducible apply Grew.drewN))))⟩
    · rw [decide_eq_false hkK] at hno
      clear hpa hpb hk
      go_wp2
      refine wp_region_flow (by kernel_rfl) ?_
      intro δf
      apply wpFlow_quiets [0,1,2,3,4,5,6,7,8,9,10,11,12,13,14,15,16,17,18,19] (by decide +kernel) (by decide +kernel) (by kernel_rfl) (by intro _ _ _ d _ h; cases d <;> exact h) _
      · intro A hA δ'
        simp only [pickOps_cons, pickOps_nil, pick1_zero, pick1_succ]
        repeat (go_big_quiet_step ((fail)))
        exact wpQuiet_nil hA.out.symm
      apply wpFlow_quiets [20] (by decide +kernel) (by decide +kernel) (by kernel_rfl) (by intro _ _ _ d _ h; cases d <;> exact h) _
      · intro A hA δ'
        simp only [pickOps_cons, pickOps_nil, pick1_zero, pick1_succ]
        repeat (go_big_quiet_step ((go_at_call 41; (with_reducible first | exact Calls.pure_of_g3 (node_w a1 a2 _) | exact Calls.pure_of_g4 (node_w a1 a2 _) | exact Calls.pure_of_g (node_w a1 a2 _) | exact Calls.pure_of_g5 (node_w a1 a2 _)))))
        exact wpQuiet_nil hA.out.symm
      apply wpFlow_quiets [21,22,23,24,25,26,27,28,29,30] (by decide +kernel) (by decide +kernel) (by kernel_rfl) (by intro _ _ _ d _ h; cases d <;> exact h) _
      · intro A hA δ'
        simp only [pickOps_cons, pickOps_nil, pick1_zero, pick1_succ]
        repeat (go_big_quiet_step ((fail)))
        exact wpQuiet_nil hA.out.symm
      apply wpFlow_quiets [31] (by decide +kernel) (by decide +kernel) (by kernel_rfl) (by intro _ _ _ d _ h; cases d <;> exact h) _
      · intro A hA δ'
        simp only [pickOps_cons, pickOps_nil, pick1_zero, pick1_succ]
        repeat (go_big_quiet_step ((go_at_call 41; (with_reducible first | exact Calls.pure_of_g3 (node_w b1 b2 _) | exact Calls.pure_of_g4 (node_w b1 b2 _) | exact Calls.pure_of_g (node_w b1 b2 _) | exact Calls.pure_of_g5 (node_w b1 b2 _)))))
        exact wpQuiet_nil hA.out.symm
      apply wpFlow_quiets [32,33] (by decide +kernel) (by decide +kernel) (by kernel_rfl) (by intro _ _ _ d _ h; cases d <;> exact h) _
      · intro A hA δ'
        simp only [pickOps_cons, pickOps_nil, pick1_zero, pick1_succ]
        repeat (go_big_quiet_step ((fail)))
        exact wpQuiet_nil hA.out.symm
      refine wpFlow_end (by decide +kernel) (by kernel_rfl) ?_
      intro δf
      go_wp2
      exact ⟨⟨k + 1, by have := HK.out; omega, by go_num, gkk.out.trans (by repeat (first | with_reducible exact Grew.refl _ | with_reducible apply Grew.alloc | with_reducible apply Grew.grow | with_reducible apply Grew.drew | with_reducible apply Grew.drewN))⟩, by simp only [intOf]; have := HK.out; omega⟩
end Go.Proofs.Ytinkdkcmmjfhoaa
/- What there is to tell of a clash. -/
namespace Go.Proofs.Ytinkdkcmmjfhoaa
set_option linter.unusedVariables false
set_option linter.unusedSimpArgs false
open Go.RowKit
theorem txt_inj {p q : Idb × Idb} (h : txt p = txt q) : p = q := by
  obtain ⟨a, b⟩ := p
  obtain ⟨c, d⟩ := q
  unfold txt textL at h
  have h1 := List.append_inj (List.cons.inj h).2 (by rw [a.len, c.len])
  have e1 : a = c := idb_ext h1.1
  have e2 : b = d := idb_ext h1.2
  rw [e1, e2]
theorem txt_lt (p : Idb × Idb) : ∀ c ∈ txt p, c < 256 := text_lt p.1 p.2
theorem sum_txt (p : Idb × Idb) : sum (txt p) = (p.1.node p.2).l := rfl
/-- What there is to tell. -/
theorem clash_tell {ls : List Idb} {i : Int} {leaf : Idb} {xs : List Idb} {j : Nat} {x : Idb} (hc : ClashAt ls i leaf xs j x) :
    ∃ (K : Nat) (p q : Idb × Idb), Meets (side ls.length j).reverse leaf xs x (path ls j) K ∧ (side ls.length j).reverse.length = xs.length ∧ (prs (side ls.length j).reverse leaf xs)[K]? = some p ∧ (prs (side ls.length j).reverse x (path ls j))[K]? = some q ∧
      txt p ≠ txt q ∧ ieq (p.1.node p.2).l (q.1.node q.2).l = true := by
  obtain ⟨rfl, hl, hx, hne, hck⟩ := hc
  have hj := (List.getElem?_eq_some_iff.1 hx).1
  have hpl := path_len ls j (by omega)
  rw [← List.length_reverse] at hpl
  have hpl : (side ls.length j).reverse.length = (path ls j).length := by rw [List.length_reverse, path_len ls j (by omega)]
  have ht := top_path ls.length ls j x (Nat.le_refl _) (by omega) hx
  unfold chk at hck
  rw [Bool.and_eq_true, Bool.and_eq_true, decide_eq_true_eq] at hck
  obtain ⟨_, h1, h2⟩ := hck
  have hs : sidesOf (ls.length : Nat) (j : Nat) = (side ls.length j).reverse := rfl
  rw [hs] at h1 h2
  have h3 := idb_ext (of_decide_eq_true h2)
  obtain ⟨K, hm⟩ := meets_some (side ls.length j).reverse leaf xs x (path ls j) hne h1 hpl (by rw [h3, ht])
  obtain ⟨s, z, u, p, q, _, _, _, _, _, _, hp, hq, hne2, hno⟩ := clash_step hm (side_01 ls.length j) h1 hpl K (Nat.le_refl _)
  refine ⟨K, p, q, hm, h1, hp, hq, fun h => ?_, by rw [hno]; exact decide_eq_true rfl⟩
  have := (peq_iff p q).2 (txt_inj h)
  rw [this] at hne2
  cases hne2
end Go.Proofs.Ytinkdkcmmjfhoaa
/- The walk of LinkSums. -/
namespace Go.Proofs.Ytinkdkcmmjfhoaa
set_option linter.unusedVariables false
set_option linter.unusedSimpArgs false
open Go.RowKit
set_option maxRecDepth 100000 in
set_option maxHeartbeats 12800000 in
theorem linkSums_walk (q : Option Addr) (c : Nat) (l : List Idb) (hm : l.length ≤ maxLen) (i : Int) (id : Idb) (q1 : Option Addr) (c1 : Nat) (l1 : List Idb) (hm1 : l1.length ≤ maxLen) (w : World) (hs : ShowsI w (.slice q l.length c) l) (hs1 : ShowsI w (.slice q1 l1.length c1) l1) :
    Calls Try.prog 8 #[.slice q l.length c, .int .i64 i, .agg (iv id.l), .slice q1 l1.length c1] w fun e w' => e = .returned (.bool true) ∧ Grew w w' := by
  have HS := Lib.hid hs
  have HS1 := Lib.hid hs1
  clear hs hm hs1 hm1
  have hil := id.len
  obtain ⟨N, hN⟩ : ∃ N, l.length = N := ⟨_, rfl⟩
  have HN := Lib.hid hN
  obtain ⟨M, hM⟩ : ∃ N, l1.length = N := ⟨_, rfl⟩
  have HM := Lib.hid hM
  rw [hN] at HS ⊢
  rw [hM] at HS1 ⊢
  by_cases h4 : ¬ (¬ 32 < (N : Int) ∧ ¬ 12 < (M : Int) ∧ ¬ i < 0 ∧ ¬ (N : Int) ≤ i)
  · have h5 : decide (32 < (N : Int)) = true ∨ (decide (32 < (N : Int)) = false ∧ decide (12 < (M : Int)) = true) ∨ (decide (32 < (N : Int)) = false ∧ decide (12 < (M : Int)) = false ∧ decide (i < 0) = true) ∨ (decide (32 < (N : Int)) = false ∧ decide (12 < (M : Int)) = false ∧ decide (i < 0) = false ∧ decide ((N : Int) ≤ i) = true) := by simp only [decide_eq_true_eq, decide_eq_false_iff_not]; omega
    clear h4 hN hM HN HM HS HS1
    rcases h5 with h1 | ⟨h1, h2⟩ | ⟨h1, h2, h3⟩ | ⟨h1, h2, h3, h4⟩
    all_goals
      go_enter Try.func8, Try.ntmps8
      go_wp2_with (go_at_call 9; refine (awake_w _).mono ?_; rintro e w' ⟨rfl, δ, rfl⟩)
      refine wp_region_flow (by kernel_rfl) ?_
      intro δf
      apply wpFlow_quiets [0,1,2,3,4,5,6,7,8,9,10,11,12,13,14,15,16,17,18,19,20,21,22,23,24,25,26,27,28,29,30,31,32,33,34,35,36,37,38,39,40] (by decide +kernel) (by decide +kernel) (by kernel_rfl) (by intro _ _ _ d _ h; cases d <;> exact h) _
      · intro A hA δ'
        simp only [pickOps_cons, pickOps_nil, pick1_zero, pick1_succ]
        repeat (go_big_quiet_step ((fail)))
        exact wpQuiet_nil hA.out.symm
      refine wpFlow_end (by decide +kernel) (by kernel_rfl) ?_
      intro δf
      go_wp2
      go_ret
      exact ⟨rfl, (by repeat (first | with_reducible exact Grew.refl _ | with_reducible apply Grew.alloc | with_reducible apply Grew.grow | with_reducible apply Grew.drew | with_reducible apply Grew.drewN))⟩
  obtain ⟨h1, h2, h3, h3'⟩ : ¬ 32 < (N : Int) ∧ ¬ 12 < (M : Int) ∧ ¬ i < 0 ∧ ¬ (N : Int) ≤ i := by omega
  clear h4
  obtain ⟨j, rfl⟩ : ∃ j : Nat, i = (j : Int) := ⟨i.toNat, by omega⟩
  have d1 : decide (32 < (N : Int)) = false := decide_eq_false h1
  have d2 : decide (12 < (M : Int)) = false := decide_eq_false h2
  have d3 : decide ((j : Int) < 0) = false := decide_eq_false h3
  have d4 : decide (N ≤ j) = false := decide_eq_false (by omega)
  have hjI : (j : Int) < (N : Int) := by omega
  obtain ⟨x, hx⟩ : ∃ x, l[j]? = some x := ⟨_, List.getElem?_eq_getElem (by omega)⟩
  have hxl := x.len
  have hhs := HS.out
  rw [← HN.out] at hhs
  obtain ⟨b, o, rfl, _, hcc, hb, hat⟩ := showsI_some hhs (by omega)
  have QL := Lib.hid (fun W (g : Grew w W) δ => load_idg (World.rangeAt.grew (hat j x hx) g) δ)
  have CR := Lib.hid (fun W (g : Grew w W) => lroot_w l (.slice (some ⟨b, o, none⟩) N c) W (by omega) (HS.out.grew g))
  have hrl := (root (leavesL l)).len
  have CC := Lib.hid (fun W (g : Grew w W) => lcheck_w (root (leavesL l)) N j id l1 (.slice q1 M c1) W (HS1.out.grew g) (by omega))
  obtain ⟨B, hB⟩ : ∃ B, chk (root (leavesL l)) N j (Idb.leaf id.l) l1 = B := ⟨_, rfl⟩
  rw [hB] at CC
  obtain ⟨R, hR⟩ : ∃ R, root (leavesL l) = R := ⟨_, rfl⟩
  rw [hR] at CR CC hrl
  have early : id = x ∨ (id ≠ x ∧ B = false) ∨ (id ≠ x ∧ B = true) := by
    by_cases h : id = x
    · exact .inl h
    · cases B
      · exact .inr (.inl ⟨h, rfl⟩)
      · exact .inr (.inr ⟨h, rfl⟩)
  rcases early with rfl | ⟨hne, rfl⟩ | ⟨hne, rfl⟩
  · have e1 : ieq id.l id.l = true := decide_eq_true rfl
    clear CC CR hN hM HN HM HS HS1 hB hR hx hat hcc
    go_enter Try.func8, Try.ntmps8
    go_wp2_with (go_at_call 9; refine (awake_w _).mono ?_; rintro e w' ⟨rfl, δ, rfl⟩)
    refine code_abs ?_
    intro Y hY
    have gY : Grew w Y := by rw [hY]; exact (by repeat (first | with_reducible exact Grew.refl _ | with_reducible apply Grew.alloc | with_reducible apply Grew.grow | with_reducible apply Grew.drew | with_reducible apply Grew.drewN))
    have rY : Y.rowAt w.heap.size = iv id.l := by rw [hY]; simp [go_sem]
    have zY : w.heap.size < Y.heap.size := by rw [hY]; simp; omega
    have GY := Lib.hid gY
    have q2 := QL.out Y gY
    clear hY gY
    refine wp_region_flow (by kernel_rfl) ?_
    intro δf
    apply wpFlow_quiets [0,1,2,3,4,5,6,7,8,9,10,11,12,13,14,15,16,17,18,19,20,21,22,23,24,25,26,27,28,29,30,31,32,33,34,35,36,37,38,39,40] (by decide +kernel) (by decide +kernel) (by kernel_rfl) (by intro _ _ _ d _ h; cases d <;> exact h) _
    · intro A hA δ'
      simp only [pickOps_cons, pickOps_nil, pick1_zero, pick1_succ]
      repeat (go_big_quiet_step ((fail)))
      exact wpQuiet_nil hA.out.symm
    refine wpFlow_end (by decide +kernel) (by kernel_rfl) ?_
    intro δf
    go_wp2
    go_ret
    exact ⟨rfl, GY.out.trans (by repeat (first | with_reducible exact Grew.refl _ | with_reducible apply Grew.alloc | with_reducible apply Grew.grow | with_reducible apply Grew.drew | with_reducible apply Grew.drewN))⟩
  · have e1 := ieq_ne hne
    clear hN hM HN HM HS HS1 hB hR hx hat hcc hne
    go_enter Try.func8, Try.ntmps8
    go_wp2_with (go_at_call 9; refine (awake_w _).mono ?_; rintro e w' ⟨rfl, δ, rfl⟩)
    refine code_abs ?_
    intro Y hY
    have gY : Grew w Y := by rw [hY]; exact (by repeat (first | with_reducible exact Grew.refl _ | with_reducible apply Grew.alloc | with_reducible apply Grew.grow | with_reducible apply Grew.drew | with_reducible apply Grew.drewN))
    have rY : Y.rowAt w.heap.size = iv id.l := by rw [hY]; simp [go_sem]
    have zY : w.heap.size < Y.heap.size := by rw [hY]; simp; omega
    have GY := Lib.hid gY
    have q2 := QL.out Y gY
    clear hY gY
    refine wp_region_flow (by kernel_rfl) ?_
    intro δf
    apply wpFlow_quiets [0,1,2,3,4,5,6,7,8,9,10,11,12,13,14,15,16,17,18,19,20,21,22,23,24,25,26,27,28,29,30,31] (by decide +kernel) (by decide +kernel) (by kernel_rfl) (by intro _ _ _ d _ h; cases d <;> exact h) _
    · intro A hA δ'
      simp only [pickOps_cons, pickOps_nil, pick1_zero, pick1_succ]
      repeat (go_big_quiet_step ((fail)))
      exact wpQuiet_nil hA.out.symm
    apply wpFlow_quiets [32] (by decide +kernel) (by decide +kernel) (by kernel_rfl) (by intro _ _ _ d _ h; cases d <;> exact h) _
    · intro A hA δ'
      simp only [pickOps_cons, pickOps_nil, pick1_zero, pick1_succ]
      repeat (go_big_quiet_step ((go_at_call 18; (with_reducible first | exact Calls.pure_of_g3 (CR.out _ (GY.out.trans (by repeat (first | with_reducible exact Grew.refl _ | with_reducible apply Grew.alloc | with_reducible apply Grew.grow | with_reducible apply Grew.drew | with_reducible apply Grew.drewN)))) | exact Calls.pure_of_g4 (CR.out _ (GY.out.trans (by repeat (first | with_reducible exact Grew.refl _ | with_reducible apply Grew.alloc | with_reducible apply Grew.grow | with_reducible apply Grew.drew | with_reducible apply Grew.drewN)))) | exact Calls.pure_of_g (CR.out _ (GY.out.trans (by repeat (first | with_reducible exact Grew.refl _ | with_reducible apply Grew.alloc | with_reducible apply Grew.grow | with_reducible apply Grew.drew | with_reducible apply Grew.drewN)))) | exact Calls.pure_of_g5 (CR.out _ (GY.out.trans (by repeat (first | with_reducible exact Grew.refl _ | with_reducible apply Grew.alloc | with_reducible apply Grew.grow | with_reducible apply Grew.drew | with_reducible apply Grew.drewN))))))))
      exact wpQuiet_nil hA.out.symm
    apply wpFlow_quiets [33,34,35,36,37] (by decide +kernel) (by decide +kernel) (by kernel_rfl) (by intro _ _ _ d _ h; cases d <;> exact h) _
    · intro A hA δ'
      simp only [pickOps_cons, pickOps_nil, pick1_zero, pick1_succ]
      repeat (go_big_quiet_step ((fail)))
      exact wpQuiet_nil hA.out.symm
    apply wpFlow_quiets [38] (by decide +kernel) (by decide +kernel) (by kernel_rfl) (by intro _ _ _ d _ h; cases d <;> exact h) _
    · intro A hA δ'
      simp only [pickOps_cons, pickOps_nil, pick1_zero, pick1_succ]
      repeat (go_big_quiet_step ((go_at_call 19; (with_reducible first | exact Calls.pure_of_g3 (CC.out _ (GY.out.trans (by repeat (first | with_reducible exact Grew.refl _ | with_reducible apply Grew.alloc | with_reducible apply Grew.grow | with_reducible apply Grew.drew | with_reducible apply Grew.drewN)))) | exact Calls.pure_of_g4 (CC.out _ (GY.out.trans (by repeat (first | with_reducible exact Grew.refl _ | with_reducible apply Grew.alloc | with_reducible apply Grew.grow | with_reducible apply Grew.drew | with_reducible apply Grew.drewN)))) | exact Calls.pure_of_g (CC.out _ (GY.out.trans (by repeat (first | with_reducible exact Grew.refl _ | with_reducible apply Grew.alloc | with_reducible apply Grew.grow | with_reducible apply Grew.drew | with_reducible apply Grew.drewN)))) | exact Calls.pure_of_g5 (CC.out _ (GY.out.trans (by repeat (first | with_reducible exact Grew.refl _ | with_reducible apply Grew.alloc | with_reducible apply Grew.grow | with_reducible apply Grew.drew | with_reducible apply Grew.drewN))))))))
      exact wpQuiet_nil hA.out.symm
    apply wpFlow_quiets [39,40] (by decide +kernel) (by decide +kernel) (by kernel_rfl) (by intro _ _ _ d _ h; cases d <;> exact h) _
    · intro A hA δ'
      simp only [pickOps_cons, pickOps_nil, pick1_zero, pick1_succ]
      repeat (go_big_quiet_step ((fail)))
      exact wpQuiet_nil hA.out.symm
    refine wpFlow_end (by decide +kernel) (by kernel_rfl) ?_
    intro δf
    go_wp2
    go_ret
    exact ⟨rfl, GY.out.trans (by repeat (first | with_reducible exact Grew.refl _ | with_reducible apply Grew.alloc | with_reducible apply Grew.grow | with_reducible apply Grew.drew | with_reducible apply Grew.drewN))⟩
  · have e1 := ieq_ne hne
    have hlen := leavesL_len l
    have hgx := leavesL_get l j x hx
    have HBB := Lib.hid hB
    have HGX := Lib.hid hx
    have HGY := Lib.hid hgx
    have HAT := Lib.hid hat
    have CF := Lib.hid (fun (y : Idb) W v (h : Shows W v (bys y.l)) => leaf_w y.l v W (by rw [y.len]; decide) y.lt h)
    clear hN hM hB hR hx hat hcc hne hgx hlen
    go_enter Try.func8, Try.ntmps8
    go_wp2_with (go_at_call 9; refine (awake_w _).mono ?_; rintro e w' ⟨rfl, δ, rfl⟩)
    refine code_abs ?_
    intro Y hY
    have gY : Grew w Y := by rw [hY]; exact (by repeat (first | with_reducible exact Grew.refl _ | with_reducible apply Grew.alloc | with_reducible apply Grew.grow | with_reducible apply Grew.drew | with_reducible apply Grew.drewN))
    have rY : Y.rowAt w.heap.size = iv id.l := by rw [hY]; simp [go_sem]
    have zY : w.heap.size < Y.heap.size := by rw [hY]; simp; omega
    have GY := Lib.hid gY
    have q2 := QL.out Y gY
    clear hY gY
    refine wp_region_flow (by kernel_rfl) ?_
    intro δf
    apply wpFlow_quiets [0,1,2,3,4,5,6,7,8,9,10,11,12,13,14,15,16,17,18,19,20,21,22,23,24,25,26,27,28,29,30,31] (by decide +kernel) (by decide +kernel) (by kernel_rfl) (by intro _ _ _ d _ h; cases d <;> exact h) _
    · intro A hA δ'
      simp only [pickOps_cons, pickOps_nil, pick1_zero, pick1_succ]
      repeat (go_big_quiet_step ((fail)))
      exact wpQuiet_nil hA.out.symm
    apply wpFlow_quiets [32] (by decide +kernel) (by decide +kernel) (by kernel_rfl) (by intro _ _ _ d _ h; cases d <;> exact h) _
    · intro A hA δ'
      simp only [pickOps_cons, pickOps_nil, pick1_zero, pick1_succ]
      repeat (go_big_quiet_step ((go_at_call 18; (with_reducible first | exact Calls.pure_of_g3 (CR.out _ (GY.out.trans (by repeat (first | with_reducible exact Grew.refl _ | with_reducible apply Grew.alloc | with_reducible apply Grew.grow | with_reducible apply Grew.drew | with_reducible apply Grew.drewN)))) | exact Calls.pure_of_g4 (CR.out _ (GY.out.trans (by repeat (first | with_reducible exact Grew.refl _ | with_reducible apply Grew.alloc | with_reducible apply Grew.grow | with_reducible apply Grew.drew | with_reducible apply Grew.drewN)))) | exact Calls.pure_of_g (CR.out _ (GY.out.trans (by repeat (first | with_reducible exact Grew.refl _ | with_reducible apply Grew.alloc | with_reducible apply Grew.grow | with_reducible apply Grew.drew | with_reducible apply Grew.drewN)))) | exact Calls.pure_of_g5 (CR.out _ (GY.out.trans (by repeat (first | with_reducible exact Grew.refl _ | with_reducible apply Grew.alloc | with_reducible apply Grew.grow | with_reducible apply Grew.drew | with_reducible apply Grew.drewN))))))))
      exact wpQuiet_nil hA.out.symm
    apply wpFlow_quiets [33,34,35,36,37] (by decide +kernel) (by decide +kernel) (by kernel_rfl) (by intro _ _ _ d _ h; cases d <;> exact h) _
    · intro A hA δ'
      simp only [pickOps_cons, pickOps_nil, pick1_zero, pick1_succ]
      repeat (go_big_quiet_step ((fail)))
      exact wpQuiet_nil hA.out.symm
    apply wpFlow_quiets [38] (by decide +kernel) (by decide +kernel) (by kernel_rfl) (by intro _ _ _ d _ h; cases d <;> exact h) _
    · intro A hA δ'
      simp only [pickOps_cons, pickOps_nil, pick1_zero, pick1_succ]
      repeat (go_big_quiet_step ((go_at_call 19; (with_reducible first | exact Calls.pure_of_g3 (CC.out _ (GY.out.trans (by repeat (first | with_reducible exact Grew.refl _ | with_reducible apply Grew.alloc | with_reducible apply Grew.grow | with_reducible apply Grew.drew | with_reducible apply Grew.drewN)))) | exact Calls.pure_of_g4 (CC.out _ (GY.out.trans (by repeat (first | with_reducible exact Grew.refl _ | with_reducible apply Grew.alloc | with_reducible apply Grew.grow | with_reducible apply Grew.drew | with_reducible apply Grew.drewN)))) | exact Calls.pure_of_g (CC.out _ (GY.out.trans (by repeat (first | with_reducible exact Grew.refl _ | with_reducible apply Grew.alloc | with_reducible apply Grew.grow | with_reducible apply Grew.drew | with_reducible apply Grew.drewN)))) | exact Calls.pure_of_g5 (CC.out _ (GY.out.trans (by repeat (first | with_reducible exact Grew.refl _ | with_reducible apply Grew.alloc | with_reducible apply Grew.grow | with_reducible apply Grew.drew | with_reducible apply Grew.drewN))))))))
      exact wpQuiet_nil hA.out.symm
    apply wpFlow_quiets [39,40] (by decide +kernel) (by decide +kernel) (by kernel_rfl) (by intro _ _ _ d _ h; cases d <;> exact h) _
    · intro A hA δ'
      simp only [pickOps_cons, pickOps_nil, pick1_zero, pick1_succ]
      repeat (go_big_quiet_step ((fail)))
      exact wpQuiet_nil hA.out.symm
    refine wpFlow_end (by decide +kernel) (by kernel_rfl) ?_
    intro δf
    clear CR CC q2 hrl d1 d2 d3 d4 e1
    refine exit_abs ?_
    intro Z hZ
    have gZ : Grew Y Z := by rw [hZ]; exact (by repeat (first | with_reducible exact Grew.refl _ | with_reducible apply Grew.alloc | with_reducible apply Grew.grow | with_reducible apply Grew.drew | with_reducible apply Grew.drewN))
    have rZ : Z.rowAt w.heap.size = iv id.l := by rw [Grew.rowAt gZ _ zY]; exact rY
    have zZ : w.heap.size < Z.heap.size := Nat.lt_of_lt_of_le zY gZ.size
    have GZ := Lib.hid (GY.out.trans gZ)
    clear hZ gZ rY zY
    go_wp2
    obtain ⟨ii, hi, hz, hsz, hby⟩ := info_id
    go_loopw [11, 10] (fun i v wr => ∃ k : Nat, k ≤ N ∧ i = .int .i64 k ∧ OwnE 32 Idb.cs wr Z.heap.size 24 v (leavesL (l.take k)) ∧ Grew Z wr) (fun i _ _ => N - (intOf i).toNat)
    case atStart => exact ⟨0, by omega, rfl, OwnE.nil _ _ _, Grew.refl _⟩
    case round =>
      obtain ⟨k, hk, rfl, ho, hg⟩ := hrel
      have HO := Lib.hid ho
      have HG := Lib.hid hg
      clear ho hg
      by_cases hkN : k < N
      · have hlt : (k : Int) < (N : Int) := by omega
        obtain ⟨y, hy⟩ : ∃ x, l[k]? = some x := ⟨_, List.getElem?_eq_getElem (by rw [HN.out]; exact hkN)⟩
        have hyl := y.len
        have HSL := Lib.hid (shows_range (Nat.lt_of_lt_of_le hb (GZ.out.trans HG.out).size) (World.rangeAt.grew (HAT.out k y hy) (GZ.out.trans HG.out)))
        have HST := Lib.hid (leavesL_take l k y hy)
        have hlen : (leavesL (l.take k)).length = k := by rw [leavesL_len, List.length_take, HN.out]; omega
        have hrl := (Idb.leaf y.l).len
        have CL := Lib.hid (fun W v h => CF.out y W v h)
        obtain ⟨u, hu⟩ : ∃ u, Idb.leaf y.l = u := ⟨_, rfl⟩
        rw [hu] at HST hrl CL
        clear hy hu
        go_wp2_with (first | (go_at_call 21; refine (CL.out _ _ HSL.out).mono ?_; rintro e w' ⟨rfl, δ, rfl⟩) | (at_builtin; refine stop_of ?_))
        unfold Stop
        refine wpList_abs ?_
        intro X hX
        have gX : Grew wr X := by rw [hX]; exact (by repeat (first | with_reducible exact Grew.refl _ | with_reducible apply Grew.alloc | with_reducible apply Grew.grow | with_reducible apply Grew.drew | with_reducible apply Grew.drewN))
        have hsh : ShowsE 32 Idb.cs X (.slice (some ⟨wr.heap.size + δ.n, 0, none⟩) 1 1) [u] := by
          rw [hX]
          exact showsE_one_g Idb.cs_len wr δ u 24 1 (by omega)
        have GX := Lib.hid (HG.out.trans gX)
        have HS := Lib.hid hsh
        have HO2 := Lib.hid (HO.out.grew gX)
        clear hX gX hsh
        refine wpList_appendE2 Idb.cs_len (by decide) rfl _ _ _ rfl _ ii _ 32 under_ids hi hz hsz hby id0_cells cs_one Z _ Z.heap.size _ _ rfl rfl _ [u] GX.out (Nat.le_refl _) GX.out.size (by exact HO2.out) (by exact HS.out) (by rw [hlen]; simp only [maxLen, List.length_cons, List.length_nil]; omega) (by rw [hlen]; simp only [List.length_cons, List.length_nil]; omega) ?_
        intro v' w2 ho' hg'
        rw [← HST.out] at ho'
        have HO3 := Lib.hid ho'
        have HG3 := Lib.hid hg'
        clear ho' hg' HO2 HS GX HO
        go_wp2
        exact ⟨⟨k + 1, by omega, by go_num, HO3.out, HG3.out⟩, by simp only [intOf]; omega⟩
      · obtain rfl : k = N := by omega
        have hge : ¬ ((k : Int) < (k : Int)) := by omega
        rw [List.take_of_length_le (by rw [HN.out]; omega)] at HO
        have r1 : wr.rowAt w.heap.size = iv id.l := by rw [Grew.rowAt HG.out _ zZ]; exact rZ
        have z1 : w.heap.size < wr.heap.size := Nat.lt_of_lt_of_le zZ HG.out.size
        have GW := Lib.hid (GZ.out.trans HG.out)
        have SL := Lib.hid (HO.out.shows Idb.cs_len)
        have HB1 := Lib.hid (fun W (g : Grew wr W) => (shows_box z1 r1).grew g)
        have HB2 := Lib.hid (fun W (g : Grew wr W) => shows_range (Nat.lt_of_lt_of_le hb (GW.out.trans g).size) (World.rangeAt.grew (HAT.out j x HGX.out) (GW.out.trans g)))
        have CLi := Lib.hid (fun W v h => CF.out id W v h)
        have CLx := Lib.hid (fun W v h => CF.out x W v h)
        have hli := (Idb.leaf id.l).len
        have hlx := (Idb.leaf x.l).len
        clear hk hkN zZ rZ HO HG
        have hlen := leavesL_len l
        have hkl := HN.out
        by_cases hll : Idb.leaf id.l = Idb.leaf x.l
        · have CA := Lib.hid (fun W (g : Grew wr W) => clash_none (leavesL l) j (Idb.leaf id.l) l1 u10 (.slice q1 M c1) W (SL.out.grew g) (HS1.out.grew (GW.out.trans g)) (by rw [HM.out]; omega) (.inr ⟨j, _, rfl, by omega, HGY.out, .inl hll⟩))
          have e1 : ieq (Idb.leaf id.l).l (Idb.leaf x.l).l = true := decide_eq_true (by rw [hll])
          obtain ⟨li, hli'⟩ : ∃ u, Idb.leaf id.l = u := ⟨_, rfl⟩
          obtain ⟨lx, hlx'⟩ : ∃ u, Idb.leaf x.l = u := ⟨_, rfl⟩
          rw [hli'] at CA CLi hli e1
          rw [hlx'] at CLx hlx e1
          clear hll hli' hlx' hlen hkl CF HGY HBB HAT QL SL
          go_wp2_with (first | (go_at_call 21; refine (CLi.out _ _ (HB1.out _ (by repeat (first | with_reducible exact Grew.refl _ | with_reducible apply Grew.alloc | with_reducible apply Grew.grow | with_reducible apply Grew.drew | with_reducible apply Grew.drewN)))).mono ?_; rintro e w' ⟨rfl, δ1, rfl⟩) | (go_at_call 22; refine (CA.out _ (by repeat (first | with_reducible exact Grew.refl _ | with_reducible apply Grew.alloc | with_reducible apply Grew.grow | with_reducible apply Grew.drew | with_reducible apply Grew.drewN))).mono ?_; rintro e w' ⟨rfl, δ2, rfl⟩))
          refine code_abs ?_
          intro V hV
          have gV : Grew wr V := by rw [hV]; exact (by repeat (first | with_reducible exact Grew.refl _ | with_reducible apply Grew.alloc | with_reducible apply Grew.grow | with_reducible apply Grew.drew | with_reducible apply Grew.drewN))
          have GV := Lib.hid gV
          clear hV gV
          refine wp_region_flow (by kernel_rfl) ?_
          intro δf
          apply wpFlow_quiets [0] (by decide +kernel) (by decide +kernel) (by kernel_rfl) (by intro _ _ _ d _ h; cases d <;> exact h) _
          · intro A hA δ'
            simp only [pickOps_cons, pickOps_nil, pick1_zero, pick1_succ]
            repeat (go_big_quiet_step ((fail)))
            exact wpQuiet_nil hA.out.symm
          apply wpFlow_quiets [1] (by decide +kernel) (by decide +kernel) (by kernel_rfl) (by intro _ _ _ d _ h; cases d <;> exact h) _
          · intro A hA δ'
            simp only [pickOps_cons, pickOps_nil, pick1_zero, pick1_succ]
            repeat (go_big_quiet_step ((go_at_call 21; (with_reducible first | exact Calls.pure_of_g3 (CLi.out _ _ (HB1.out _ (GV.out.trans (by repeat (first | with_reducible exact Grew.refl _ | with_reducible apply Grew.alloc | with_reducible apply Grew.grow | with_reducible apply Grew.drew | with_reducible apply Grew.drewN))))) | exact Calls.pure_of_g4 (CLi.out _ _ (HB1.out _ (GV.out.trans (by repeat (first | with_reducible exact Grew.refl _ | with_reducible apply Grew.alloc | with_reducible apply Grew.grow | with_reducible apply Grew.drew | with_reducible apply Grew.drewN))))) | exact Calls.pure_of_g (CLi.out _ _ (HB1.out _ (GV.out.trans (by repeat (first | with_reducible exact Grew.refl _ | with_reducible apply Grew.alloc | with_reducible apply Grew.grow | with_reducible apply Grew.drew | with_reducible apply Grew.drewN))))) | exact Calls.pure_of_g5 (CLi.out _ _ (HB1.out _ (GV.out.trans (by repeat (first | with_reducible exact Grew.refl _ | with_reducible apply Grew.alloc | with_reducible apply Grew.grow | with_reducible apply Grew.drew | with_reducible apply Grew.drewN)))))))))
            exact wpQuiet_nil hA.out.symm
          apply wpFlow_quiets [2,3,4,5] (by decide +kernel) (by decide +kernel) (by kernel_rfl) (by intro _ _ _ d _ h; cases d <;> exact h) _
          · intro A hA δ'
            simp only [pickOps_cons, pickOps_nil, pick1_zero, pick1_succ]
            repeat (go_big_quiet_step ((fail)))
            exact wpQuiet_nil hA.out.symm
          apply wpFlow_quiets [6] (by decide +kernel) (by decide +kernel) (by kernel_rfl) (by intro _ _ _ d _ h; cases d <;> exact h) _
          · intro A hA δ'
            simp only [pickOps_cons, pickOps_nil, pick1_zero, pick1_succ]
            repeat (go_big_quiet_step ((go_at_call 21; (with_reducible first | exact Calls.pure_of_g3 (CLx.out _ _ (HB2.out _ (GV.out.trans (by repeat (first | with_reducible exact Grew.refl _ | with_reducible apply Grew.alloc | with_reducible apply Grew.grow | with_reducible apply Grew.drew | with_reducible apply Grew.drewN))))) | exact Calls.pure_of_g4 (CLx.out _ _ (HB2.out _ (GV.out.trans (by repeat (first | with_reducible exact Grew.refl _ | with_reducible apply Grew.alloc | with_reducible apply Grew.grow | with_reducible apply Grew.drew | with_reducible apply Grew.drewN))))) | exact Calls.pure_of_g (CLx.out _ _ (HB2.out _ (GV.out.trans (by repeat (first | with_reducible exact Grew.refl _ | with_reducible apply Grew.alloc | with_reducible apply Grew.grow | with_reducible apply Grew.drew | with_reducible apply Grew.drewN))))) | exact Calls.pure_of_g5 (CLx.out _ _ (HB2.out _ (GV.out.trans (by repeat (first | with_reducible exact Grew.refl _ | with_reducible apply Grew.alloc | with_reducible apply Grew.grow | with_reducible apply Grew.drew | with_reducible apply Grew.drewN)))))))))
            exact wpQuiet_nil hA.out.symm
          apply wpFlow_quiets [7,8] (by decide +kernel) (by decide +kernel) (by kernel_rfl) (by intro _ _ _ d _ h; cases d <;> exact h) _
          · intro A hA δ'
            simp only [pickOps_cons, pickOps_nil, pick1_zero, pick1_succ]
            repeat (go_big_quiet_step ((fail)))
            exact wpQuiet_nil hA.out.symm
          refine wpFlow_end (by decide +kernel) (by kernel_rfl) ?_
          intro δf
          go_wp2
          go_ret
          exact ⟨rfl, GW.out.trans (GV.out.trans (by repeat (first | with_reducible exact Grew.refl _ | with_reducible apply Grew.alloc | with_reducible apply Grew.grow | with_reducible apply Grew.drew | with_reducible apply Grew.drewN)))⟩
        · have hc : ClashAt (leavesL l) (j : Int) (Idb.leaf id.l) l1 j (Idb.leaf x.l) := ⟨rfl, by omega, HGY.out, hll, by have := HBB.out; rw [hlen, hkl]; exact this⟩
          obtain ⟨K, p, q', hmt, hlen2, hp, hq, hne, hno⟩ := clash_tell hc
          have CA := Lib.hid (fun W (g : Grew wr W) => clash_yes (leavesL l) j (Idb.leaf id.l) l1 j (Idb.leaf x.l) K hc hmt hlen2 p q' hp hq u10 (.slice q1 M c1) W (SL.out.grew g) (HS1.out.grew (GW.out.trans g)))
          have e3 : ((bstr (txt p)).toList == (bstr (txt q')).toList) = false := by rw [eq_bstr _ _ (txt_lt p) (txt_lt q')]; exact decide_eq_false hne
          have K1 : Hid (∀ W v, Shows W v (bys (txt p)) → Calls Try.prog 23 #[v] W fun e w' => e = .returned (.agg (iv (p.1.node p.2).l)) ∧ Grew W w') := Lib.hid (fun W v g => sum_w (txt p) v W (by unfold txt; rw [text_len]; decide) (txt_lt p) g)
          have K2 : Hid (∀ W v, Shows W v (bys (txt q')) → Calls Try.prog 23 #[v] W fun e w' => e = .returned (.agg (iv (q'.1.node q'.2).l)) ∧ Grew W w') := Lib.hid (fun W v g => sum_w (txt q') v W (by unfold txt; rw [text_len]; decide) (txt_lt q') g)
          have n1 := (p.1.node p.2).len
          have n2 := (q'.1.node q'.2).len
          obtain ⟨A, hA⟩ : ∃ A, p.1.node p.2 = A := ⟨_, rfl⟩
          obtain ⟨B2, hB2⟩ : ∃ A, q'.1.node q'.2 = A := ⟨_, rfl⟩
          rw [hA] at K1 n1 hno
          rw [hB2] at K2 n2 hno
          obtain ⟨P, hP⟩ : ∃ A, txt p = A := ⟨_, rfl⟩
          obtain ⟨Q, hQ⟩ : ∃ A, txt q' = A := ⟨_, rfl⟩
          rw [hP] at CA e3 K1
          rw [hQ] at CA e3 K2
          obtain ⟨li, hli'⟩ : ∃ u, Idb.leaf id.l = u := ⟨_, rfl⟩
          rw [hli'] at CA CLi hli
          clear hA hB2 hP hQ hc hmt hlen2 hp hq hne hll hli' hlen hkl CF HGY HBB HAT QL SL CLx HB2 hlx
          go_wp2_with (first | (go_at_call 21; refine (CLi.out _ _ (HB1.out _ (by repeat (first | with_reducible exact Grew.refl _ | with_reducible apply Grew.alloc | with_reducible apply Grew.grow | with_reducible apply Grew.drew | with_reducible apply Grew.drewN)))).mono ?_; rintro e w' ⟨rfl, δ1, rfl⟩) | (go_at_call 22; refine stop_of ?_))
          unfold Stop
          refine Calls_abs ?_
          intro X hX
          have gX : Grew wr X := by rw [hX]; exact (by repeat (first | with_reducible exact Grew.refl _ | with_reducible apply Grew.alloc | with_reducible apply Grew.grow | with_reducible apply Grew.drew | with_reducible apply Grew.drewN))
          refine (CA.out _ gX).mono ?_
          rintro e W2 ⟨va, vb, rfl, sa, sb, hg⟩
          have G2 := Lib.hid (GW.out.trans (gX.trans hg))
          have SA := Lib.hid sa
          have SB := Lib.hid sb
          have t1 := shows_string sa
          have t2 := shows_string sb
          clear hX gX hg sa sb CA r1 z1
          go_wp2_with (go_at_call 23; refine stop_of ?_)
          unfold Stop
          refine (K1.out _ va SA.out).mono ?_
          rintro e w' ⟨rfl, δ1, rfl⟩
          go_wp2_with (go_at_call 23; refine stop_of ?_)
          unfold Stop
          refine (K2.out _ vb (SB.out.grew (by repeat (first | with_reducible exact Grew.refl _ | with_reducible apply Grew.alloc | with_reducible apply Grew.grow | with_reducible apply Grew.drew | with_reducible apply Grew.drewN)))).mono ?_
          rintro e w' ⟨rfl, δ2, rfl⟩
          go_wp2
          go_ret
          exact ⟨rfl, G2.out.trans (by repeat (first | with_reducible exact Grew.refl _ | with_reducible apply Grew.alloc | with_reducible apply Grew.grow | with_reducible apply Grew.drew | with_reducible apply Grew.drewN))⟩
end Go.Proofs.Ytinkdkcmmjfhoaa
namespace Go.Proofs.Ytinkdkcmmjfhoaa.linkSums
set_option linter.unusedVariables false
set_option linter.unusedSimpArgs false
open Go.ChangeShapes Go.WideShapes Go.ChangeAt Go.RowKit

set_option maxRecDepth 100000 in
theorem lifted (os : Os) (started : os.Started) (H : Type) (enc : TypeId × Value → H) :
    ReturnsInHanded {} Try.checked os 8 .any (Rows.linkSumsSpec.pre6 enc Try.prog Try.f8 Rows.linkSumsRow.domain false) (Rows.linkSumsSpec.post enc Try.prog Try.f8 false true false false) := by
  refine returnsInHanded_of_change (C := Try.checked) own started (by kernel_rfl) Try.func8
    (ChangeSpec.witness6 (enc := enc) (C := Try.checked) false ⟨#[], #[.slice none 0 0, .int .i64 0, .agg (Array.replicate 32 (.int .u8 0)), .slice none 0 0], []⟩ 8 (by kernel_rfl) (by kernel_rfl) (by kernel_rfl) (by kernel_rfl)) ?_
  intro W base args ds gs before hval0 hW _ _
  have hval : ∀ (j : Nat) t v, Try.f8.params[j]? = some t → args[j]? = some v → Value.okWide Try.prog W .any base t v := hval0
  have hW' := hW
  obtain ⟨p, q, hA0, hV, rfl, hfz, hnd⟩ := hW
  have hA : DataW.TrodAll enc Try.prog W 0 (fun _ => true) true Try.f8.params.toList args.toList ds p := hA0
  have hAk := hA
  rw [Try.params8] at hA hval
  obtain ⟨v0, vs0, d0, ds0, p0, q0, hargs0, rfl, rfl, h0, r0⟩ := trodAll_cons hA
  obtain ⟨v1, vs1, d1, ds1, p1, q1, hargs1, rfl, rfl, h1, r1⟩ := trodAll_cons r0
  obtain ⟨v2, vs2, d2, ds2, p2, q2, hargs2, rfl, rfl, h2, r2⟩ := trodAll_cons r1
  obtain ⟨v3, vs3, d3, ds3, p3, q3, hargs3, rfl, rfl, h3, r3⟩ := trodAll_cons r2
  obtain ⟨rfl, rfl, rfl⟩ := trodAll_nil r3
  subst hargs3
  subst hargs2
  subst hargs1
  obtain rfl : args = #[v0, v1, v2, v3] := by cases args; simp_all
  obtain ⟨rfl, rfl⟩ := trodVars_none hV
  obtain ⟨q0', n0', c0', rfl⟩ := okWide_slice Try.underlying22 (hval 0 22 v0 rfl rfl)
  obtain ⟨aq0, ac0, al0, ae0, am0, as0⟩ := open_ids h0 rfl
  rw [ae0]
  obtain ⟨a1, rfl, rfl, _, w1⟩ := open_int Try.underlying3 (hval 1 3 v1 rfl rfl) h1
  obtain ⟨a2, rfl, _, _⟩ := open_id (hval 2 24 v2 rfl rfl) h2
  obtain ⟨q3', n3', c3', rfl⟩ := okWide_slice Try.underlying22 (hval 3 22 v3 rfl rfl)
  obtain ⟨aq3, ac3, al3, ae3, am3, as3⟩ := open_ids h3 rfl
  rw [ae3]
  simp only [List.append_nil] at hW'
  refine (linkSums_walk aq0 ac0 al0 am0 a1 a2 aq3 ac3 al3 am3 W as0 as3).mono fun e W' ⟨he, hg⟩ => ?_
  subst he
  rw [← ae0]
  rw [← ae3]
  exact ⟨_, rfl, post_of_stays hW' rfl (by simpa using hAk) (types_ok _ (by rw [Try.params8]; kernel_rfl)) rfl rfl (fun _ _ _ => (trodAll_cons_mk (shut_bool Try.underlying4 _) trodAll_mk0))
    hg (ok_one (by kernel_rfl) rfl (okWide_bool_mk Try.underlying4 _))⟩

theorem proved : Rows.LinkSumsSaid :=
  OpenClaim.holds_of_wide 8 Try.f8 rfl rfl rfl rfl rfl rfl rfl ⟨rfl, rfl, rfl, rfl, rfl⟩ rfl rfl rfl rfl rfl (by kernel_rfl) Try.func8 (by kernel_rfl)
    (of_decide_eq_true (by kernel_rfl)) (by unfold Func.isWrapper; first | (rw [if_pos (by decide +kernel)]; kernel_rfl) | (rw [if_neg (by decide +kernel)]; exact ⟨rfl, rfl⟩))
    (fun os started H enc _ => lifted os started H enc)
end Go.Proofs.Ytinkdkcmmjfhoaa.linkSums
