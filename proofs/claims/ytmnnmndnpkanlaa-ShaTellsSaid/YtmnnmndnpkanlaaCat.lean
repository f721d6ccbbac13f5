/- slices.Grow, slices.Concat of bytes. -/
import Derived.Test.YtmnnmndnpkanlaaRows
import Derived.Test.YtmnnmndnpkanlaaOwn
import Derived.Test.YtmnnmndnpkanlaaEnv
namespace Go.Proofs.Ytmnnmndnpkanlaa
set_option linter.unusedVariables false
set_option linter.unusedSimpArgs false
open Go.RowKit
/-- The cells of bytes. -/
def bys (l : List Nat) : List Value := l.map fun (c : Nat) => Value.int .u8 (c : Int)
theorem bys_len (l : List Nat) : (bys l).length = l.length := by simp [bys]
theorem bys_append (l m : List Nat) : bys (l ++ m) = bys l ++ bys m := by simp [bys]
theorem bys_one (l : List Nat) : ∀ x ∈ bys l, x.oneCell' = true := by
  intro x hx
  obtain ⟨c, _, rfl⟩ := List.mem_map.1 hx
  rfl
theorem under_bs : Try.prog.underlying 22 = some (.slice 5) := by kernel_rfl
theorem info_b : ∃ i, Try.prog.info? 5 = some i ∧ i.zero = some (.int .u8 0) ∧ i.size = 1 ∧ i.bytes = 1 := by
  refine ⟨_, rfl, ?_, ?_, ?_⟩ <;> kernel_rfl
set_option maxRecDepth 100000 in
set_option maxHeartbeats 1600000 in
theorem grow_w (n : Nat) (hn : n ≤ 1099511627776) (w : World) :
    Calls Try.prog 24 #[.slice none 0 0, .int .i64 (n : Int)] w fun e w' => ∃ v, e = .returned v ∧ OwnR w' w.heap.size 5 v [] ∧ Grew w w' := by
  obtain ⟨i, hi, hz, hs, hb⟩ := info_b
  by_cases h0 : n = 0
  · subst h0
    go_enter Try.func24, Try.ntmps24
    go_wp2
    go_ret
    exact ⟨_, rfl, OwnR.nil _ _ _, (by repeat (first | with_reducible exact Grew.refl _ | with_reducible apply Grew.alloc | with_reducible apply Grew.grow | with_reducible apply Grew.drew | with_reducible apply Grew.drewN))⟩
  · have h1 : ¬ ((n : Int) < 0) := by omega
    have h2 : 0 < (n : Int) := by omega
    have hr := fun w => Lib.run_append_nil_zeros (P := Try.prog) w 22 3 22 5 i (.int .u8 0) .i64 .i64 under_bs (by kernel_rfl) hi hz n (by omega) (by omega) (by omega) (by rw [hb]; omega)
    go_enter Try.func24, Try.ntmps24
    go_wp2_with (at_builtin; refine Lib.wpList_append_run _ rfl _ _ _ _ rfl _ _ rfl rfl _ _ (hr _) ?_)
    go_ret
    have hcap := grownCap_ge w n 0 5
    have hmax := grownCap_le_maxLen w n 0 5 (by simp only [maxLen]; omega)
    exact ⟨_, rfl, ⟨rfl, .inr ⟨_, _, _, rfl, Nat.le_refl _, heap_alloc_new w _, Nat.zero_le _, hmax, by simp [Builtin.zeroCells, Value.cells]; omega, rfl⟩⟩, (by repeat (first | with_reducible exact Grew.refl _ | with_reducible apply Grew.alloc | with_reducible apply Grew.grow | with_reducible apply Grew.drew | with_reducible apply Grew.drewN))⟩
def catk (ls : List (List Nat)) (k : Nat) : List Nat := (ls.take k).flatten
theorem catk_0 (ls : List (List Nat)) : catk ls 0 = [] := by simp [catk]
theorem catk_succ (ls : List (List Nat)) (k : Nat) (h : k < ls.length) : catk ls (k + 1) = catk ls k ++ ls.getD k [] := by
  unfold catk
  rw [List.take_add_one, List.flatten_append]
  congr 1
  simp [List.getD, h]
theorem catk_all (ls : List (List Nat)) : catk ls ls.length = ls.flatten := by simp [catk]
theorem catk_le (ls : List (List Nat)) (k : Nat) : (catk ls k).length ≤ ls.flatten.length := by
  unfold catk
  conv => rhs; rw [← List.take_append_drop k ls]
  rw [List.flatten_append, List.length_append]
  omega
theorem catk_len (ls : List (List Nat)) (k : Nat) (h : k < ls.length) : (catk ls (k + 1)).length = (catk ls k).length + (ls.getD k []).length := by rw [catk_succ ls k h, List.length_append]
theorem shows_form {w : World} {v : Value} {xs : List Value} (h : Shows w v xs) : ∃ p c, v = .slice p xs.length c := by
  rcases h with ⟨b, o, c, rfl, _⟩ | ⟨p, c, rfl, rfl⟩
  · exact ⟨_, _, rfl⟩
  · exact ⟨_, _, rfl⟩
/-- Here the walk halts. -/
def Stop (p : Prop) : Prop := p
theorem stop_of {p : Prop} (h : Stop p) : p := h
set_option maxRecDepth 100000 in
set_option maxHeartbeats 1600000 in
theorem concat_w (ls : List (List Nat)) (vs : List Value) (lv : Value) (w : World) (hvs : vs.length = ls.length) (hl : Shows w lv vs)
    (hs : ∀ k, k < ls.length → Shows w (vs.getD k undef) (bys (ls.getD k []))) (hN : ls.flatten.length ≤ 1099511627776) (hL : ls.length ≤ 1099511627776) :
    Calls Try.prog 17 #[lv] w fun e w' => ∃ v, e = .returned v ∧ OwnR w' w.heap.size 5 v (bys ls.flatten) ∧ Grew w w' := by
  obtain ⟨i, hi, hz, hsz, hby⟩ := info_b
  rcases hl with ⟨b, o, c, rfl, hb, hc⟩ | ⟨p0, c0, rfl, h0⟩
  · have HC := Lib.hid hc
    have HS := Lib.hid hs
    have HV := Lib.hid hvs
    rw [hvs]
    clear hc hs hvs
    go_enter Try.func17, Try.ntmps17
    go_wp2
    go_loopw [11, 3] (fun n m wr => ∃ k : Nat, k ≤ ls.length ∧ n = .int .i64 k ∧ m = .int .i64 ((catk ls k).length : Nat) ∧ wr = w) (fun n _ _ => ls.length - (intOf n).toNat)
    case atStart => exact ⟨0, by omega, rfl, rfl, rfl⟩
    case round =>
      obtain ⟨k, hk, rfl, rfl, rfl⟩ := hrel
      by_cases hn : k < ls.length
      · have hlt : (k : Int) < (ls.length : Int) := by omega
        obtain ⟨p, c', hv⟩ := shows_form (HS.out k hn)
        have hcell := HC.out k (.slice p (bys (ls.getD k [])).length c') (by rw [← hv]; simp [List.getD, HV.out, hn])
        rw [bys_len] at hcell
        have e1 := catk_len ls k hn
        have e2 := catk_le ls (k + 1)
        have e3 : (((catk ls k).length : Int) + ((ls.getD k []).length : Int)) = ((catk ls (k + 1)).length : Nat) := by omega
        have e4 : ¬ (((catk ls (k + 1)).length : Int) < 0) := by omega
        clear hv
        generalize (ls.getD k []).length = q at *
        have e6 : IntKind.i64.wrap (((catk ls k).length : Int) + (q : Int)) = ((catk ls (k + 1)).length : Nat) := by rw [IntKind.wrap_i64]; omega
        clear e1 e2 e3
        obtain ⟨q1, hq1⟩ : ∃ q1, (catk ls k).length = q1 := ⟨_, rfl⟩
        obtain ⟨q2, hq2⟩ : ∃ q2, (catk ls (k + 1)).length = q2 := ⟨_, rfl⟩
        rw [hq1, hq2] at e6
        rw [hq2] at e4
        rw [hq1]
        have HQ := Lib.hid hq2
        clear hq1 hq2
        go_wp2
        exact ⟨⟨k + 1, by omega, by go_num, by rw [HQ.out], trivial⟩, by simp only [intOf]; omega⟩
      · obtain rfl : k = ls.length := by omega
        clear hk hn
        have hge : ¬ ((ls.length : Int) < (ls.length : Int)) := by omega
        go_wp2_with (go_at_call 24; refine (grow_w _ (by rw [catk_all]; exact hN) _).mono ?_; rintro e w' ⟨v, rfl, ho, hg⟩)
        have HG := Lib.hid hg
        have HO := Lib.hid ho
        have hb2 : wr.heap.size ≤ w'.heap.size := hg.size
        clear hg ho
        go_loopw [27, 6] (fun n v2 w2 => ∃ k : Nat, k ≤ ls.length ∧ n = .int .i64 k ∧ OwnR w2 wr.heap.size 5 v2 (bys (catk ls k)) ∧ Grew wr w2) (fun n _ _ => ls.length - (intOf n).toNat)
        case atStart => exact ⟨0, by omega, rfl, by rw [catk_0]; exact HO.out, HG.out⟩
        case round =>
          obtain ⟨k, hk, rfl, ho2, hg2⟩ := hrel
          by_cases hn : k < ls.length
          · have hlt : (k : Int) < (ls.length : Int) := by omega
            have hsk := (HS.out k hn).grew hg2
            obtain ⟨p, c', hv⟩ := shows_form (HS.out k hn)
            rw [hv, bys_len] at hsk
            have hcell := hg2.cell (HC.out k (.slice p (bys (ls.getD k [])).length c') (by rw [← hv]; simp [List.getD, HV.out, hn]))
            rw [bys_len] at hcell
            have e1 := catk_len ls k hn
            have e2 := catk_le ls (k + 1)
            have HS2 := hsk
            have HO2 := Lib.hid ho2
            have HG2 := Lib.hid hg2
            have hsz2 := hg2.size
            have e7 := catk_succ ls k hn
            obtain ⟨m, hm⟩ : ∃ m, ls.getD k [] = m := ⟨_, rfl⟩
            rw [hm] at HS2 hcell e1 e7
            have E7 := Lib.hid e7
            have HS3 := Lib.hid HS2
            clear HS2
            clear hv hsk ho2 hg2 hm e7
            go_wp2_with (at_builtin; refine stop_of ?_)
            unfold Stop
            refine wpList_append_shows rfl _ _ _ rfl _ _ i _ 1 under_bs hi hz hsz hby rfl _ _ rfl rfl _ _ HO2.out HS3.out (bys_one _) (by rw [bys_len, bys_len]; simp only [maxLen]; omega) (by rw [bys_len, bys_len]; omega) hsz2 ?_
            intro v' w2' ho' hg'
            have hrow := HO2.out.block
            go_wp2
            refine ⟨⟨k + 1, by omega, by go_num, by rw [E7.out, bys_append]; exact ho', Grew.grown HG2.out hg' fun j hj => (hrow j hj).1⟩, by simp only [intOf]; omega⟩
          · obtain rfl : k = ls.length := by omega
            clear hk hn
            have hge : ¬ ((ls.length : Int) < (ls.length : Int)) := by omega
            rw [catk_all] at ho2
            go_wp2
            go_ret
            exact ⟨_, rfl, ho2, hg2⟩
  · obtain rfl : vs = [] := h0
    obtain rfl : ls = [] := List.length_eq_zero_iff.1 hvs.symm
    go_enter Try.func17, Try.ntmps17
    go_wp2
    go_loopw [11, 3] (fun n m wr => n = .int .i64 0 ∧ m = .int .i64 0 ∧ wr = w) (fun _ _ _ => 0)
    case atStart => exact ⟨rfl, rfl, rfl⟩
    case round =>
      obtain ⟨rfl, rfl, rfl⟩ := hrel
      go_wp2_with (go_at_call 24; refine (grow_w 0 (by omega) _).mono ?_; rintro e w' ⟨v, rfl, ho, hg⟩)
      have HG := Lib.hid hg
      have HO := Lib.hid ho
      clear hg ho
      go_loopw [27, 6] (fun n v2 w2 => n = .int .i64 0 ∧ OwnR w2 wr.heap.size 5 v2 [] ∧ Grew wr w2) (fun _ _ _ => 0)
      case atStart => exact ⟨rfl, HO.out, HG.out⟩
      case round =>
        obtain ⟨rfl, ho2, hg2⟩ := hrel
        go_wp2
        go_ret
        exact ⟨_, rfl, ho2, hg2⟩
end Go.Proofs.Ytmnnmndnpkanlaa
