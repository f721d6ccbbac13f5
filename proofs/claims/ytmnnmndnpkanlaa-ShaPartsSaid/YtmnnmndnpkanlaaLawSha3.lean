/- ShaParts. -/
import Derived.Test.YtmnnmndnpkanlaaOfW
import Derived.Test.YtmnnmndnpkanlaaAwake1
import Derived.Test.YtmnnmndnpkanlaaOwn2
import Derived.Test.YtmnnmndnpkanlaaFlow
namespace Go.Proofs.Ytmnnmndnpkanlaa
set_option linter.unusedVariables false
set_option linter.unusedSimpArgs false
open Go.RowKit
theorem catk_step (ls : List (List Nat)) (k : Nat) (h : k < ls.length) : bys (catk ls (k + 1)) = bys (catk ls k) ++ bys (ls.getD k []) := by rw [catk_succ ls k h, bys_append]
theorem catk_small (ls : List (List Nat)) (h : ∀ l ∈ ls, l.length ≤ 100) : ∀ k, (catk ls k).length ≤ 100 * k := by
  intro k
  induction k with
  | zero => simp [catk_0]
  | succ k ih =>
    by_cases hk : k < ls.length
    · rw [catk_len ls k hk]
      have : ls.getD k [] ∈ ls := by simp [List.getD, hk]
      have := h _ this
      omega
    · have : catk ls (k + 1) = catk ls k := by unfold catk; rw [List.take_of_length_le (by omega), List.take_of_length_le (by omega)]
      rw [this]; omega
theorem rows_one (w : World) (v : Value) (l : List Nat) (h : Shows w v (bys l)) : RowsAt (w.alloc (.cells #[v] 22)) (.slice (some ⟨w.heap.size, 0, none⟩) 1 1) [l] := by
  refine ⟨[v], rfl, shows_one w v _ 1, fun k hk => ?_⟩
  obtain rfl : k = 0 := by simp at hk; omega
  exact h.grew ⟨_, alloc_is_grow w _⟩
theorem rows_two (w : World) (v v' : Value) (l l' : List Nat) (h : Shows w v (bys l)) (h' : Shows w v' (bys l')) : RowsAt (w.alloc (.cells #[v, v'] 22)) (.slice (some ⟨w.heap.size, 0, none⟩) 2 2) [l, l'] := by
  refine ⟨[v, v'], rfl, shows_alloc w [v, v'] _ 2, fun k hk => ?_⟩
  match k, hk with
  | 0, _ => exact h.grew ⟨_, alloc_is_grow w _⟩
  | 1, _ => exact h'.grew ⟨_, alloc_is_grow w _⟩
theorem own_form' {w : World} {base : Nat} {e : TypeId} {v : Value} {xs : List Value} (h : OwnR w base e v xs) (hne : 0 < xs.length) :
    ∃ g cap, v = .slice (some ⟨g, 0, none⟩) xs.length cap ∧ base ≤ g ∧ g < w.heap.size ∧ xs.length ≤ cap ∧ cap ≤ maxLen ∧ ∀ j, j < xs.length → w.cell? ⟨g, j, none⟩ = xs[j]? := by
  have h' := h
  rcases h.2 with ⟨rfl, h0⟩ | ⟨g, cap, cur, rfl, hb, hg, hn, hm, _, _⟩
  · omega
  · exact ⟨g, cap, rfl, hb, (Array.getElem?_eq_some_iff.1 hg).1, hn, hm, fun j hj => by rw [own_cell h' j hj, List.getElem?_eq_getElem hj]⟩
theorem of_gr (ls : List (List Nat)) (v : Value) (w : World) (hb : ∀ l ∈ ls, ∀ x ∈ l, x < 256) (hn : ls.length ≤ 1000000) (hl : ls.flatten.length ≤ 1073741824) (hv : RowsAt w v ls) (δ : Junk) :
    Calls Try.prog 14 #[v] (w.grow δ) fun e w' => e = .returned (.agg (iv (sum ls.flatten))) ∧ Grew (w.grow δ) w' := of_w ls v _ hb hn hl (hv.grew ⟨δ, rfl⟩)
theorem sum_gr' (l : List Nat) (v : Value) (w : World) (hl : l.length ≤ 1073741824) (hb : ∀ c ∈ l, c < 256) (hv : Shows w v (bys l)) (δ : Junk) :
    Calls Try.prog 12 #[v] (w.grow δ) fun e w' => e = .returned (.agg (iv (sum l))) ∧ Grew (w.grow δ) w' := sum_w l v _ hl hb (hv.grew ⟨δ, rfl⟩)
theorem rows_two_g (X : World) (a : Junk) (v v' : Value) (l l' : List Nat) (h : Shows X v (bys l)) (h' : Shows X v' (bys l')) : RowsAt ((X.grow a).alloc (.cells #[v, v'] 22)) (.slice (some ⟨X.heap.size + a.n, 0, none⟩) 2 2) [l, l'] := by
  have := rows_two (X.grow a) v v' l l' (h.grew ⟨a, rfl⟩) (h'.grew ⟨a, rfl⟩)
  rwa [size_grow] at this
/-- A part of what is shown. -/
theorem shows_part {w : World} {b o c : Nat} {l : List Nat} (hb : b < w.heap.size) (h : ∀ j, j < l.length → w.cell? ⟨b, o + j, none⟩ = (bys l)[j]?) (i n c' : Nat) (hi : i + n ≤ l.length) :
    Shows w (.slice (some ⟨b, o + i, none⟩) n c') (bys ((l.drop i).take n)) := by
  have hlen : ((l.drop i).take n).length = n := by rw [List.length_take, List.length_drop]; omega
  have : Shows w (.slice (some ⟨b, o + i, none⟩) (bys ((l.drop i).take n)).length c') (bys ((l.drop i).take n)) := .inl ⟨b, o + i, c', rfl, hb, fun j u hj => by
    have hj2 : j < n := by
      have := (List.getElem?_eq_some_iff.1 hj).1
      rwa [bys_len, hlen] at this
    rw [Nat.add_assoc, h (i + j) (by omega), ← hj]
    simp only [bys, List.getElem?_map, List.getElem?_take, if_pos hj2, List.getElem?_drop]⟩
  rwa [bys_len, hlen] at this
theorem own_part {w : World} {base : Nat} {v : Value} {l : List Nat} (h : OwnR w base 5 v (bys l)) (hne : 0 < l.length) : ∃ g cap, v = .slice (some ⟨g, 0, none⟩) l.length cap ∧ g < w.heap.size ∧ l.length ≤ cap ∧ cap ≤ maxLen ∧ (∀ j, j < l.length → w.cell? ⟨g, 0 + j, none⟩ = (bys l)[j]?) := by
  obtain ⟨g, cap, rfl, _, hg, hc, hm, hcell⟩ := own_form' h (by rw [bys_len]; exact hne)
  rw [bys_len] at hc hcell ⊢
  exact ⟨g, cap, rfl, hg, hc, hm, fun j hj => by rw [Nat.zero_add]; exact hcell j hj⟩
set_option maxRecDepth 100000 in
set_option maxHeartbeats 6400000 in
theorem shaParts_walk (q : Option Addr) (c : Nat) (ls : List (List Nat)) (hb : ∀ l ∈ ls, ∀ x ∈ l, x < 256) (hm : ls.length ≤ maxLen ∧ ∀ l ∈ ls, l.length ≤ maxLen) (k : Int) (w : World) (hs : RowsAt w (.slice q ls.length c) ls) :
    Calls Try.prog 6 #[.slice q ls.length c, .int .i64 k] w fun e w' => e = .returned (.bool true) ∧ Grew w w' := by
  obtain ⟨ib, hi, hz, hsz, hby⟩ := info_b
  have HB := Lib.hid hb
  have HS := Lib.hid hs
  clear hb hs hm
  by_cases h4 : 8 < ls.length
  · have h4' : decide (8 < (ls.length : Int)) = true := decide_eq_true (by omega)
    go_enter Try.func6, Try.ntmps6
    go_wp2_with (go_at_call 9; refine (awake1 _).mono ?_; rintro e w' ⟨rfl, δ, rfl⟩)
    go_ret
    exact ⟨rfl, (by repeat (first | with_reducible exact Grew.refl _ | with_reducible apply Grew.alloc | with_reducible apply Grew.grow | with_reducible apply Grew.drew | with_reducible apply Grew.drewN))⟩
  · have h4' : decide (8 < (ls.length : Int)) = false := decide_eq_false (by omega)
    obtain ⟨vs, hvs1, hvs2, hvs3⟩ := HS.out
    have HV1 := Lib.hid hvs1
    have HV2 := Lib.hid hvs2
    have HV3 := Lib.hid hvs3
    clear hvs1 hvs2 hvs3
    have hl8 : ls.length ≤ 8 := by omega
    go_enter Try.func6, Try.ntmps6
    go_wp2_with (go_at_call 9; refine (awake1 _).mono ?_; rintro e w' ⟨rfl, δ, rfl⟩)
    go_loopw [7, 6] (fun n v wr => ∃ k : Nat, k ≤ ls.length ∧ n = .int .i64 k ∧ OwnR wr w.heap.size 5 v (bys (catk ls k)) ∧ (catk ls k).length ≤ 100 * k ∧ Grew w wr) (fun n _ _ => ls.length - (intOf n).toNat)
    case atStart => exact ⟨0, by omega, rfl, by rw [catk_0]; exact OwnR.nil _ _ _, by rw [catk_0]; simp, (by repeat (first | with_reducible exact Grew.refl _ | with_reducible apply Grew.alloc | with_reducible apply Grew.grow | with_reducible apply Grew.drew | with_reducible apply Grew.drewN))⟩
    case round =>
      obtain ⟨m, hmk, rfl, ho, hlen, hg⟩ := hrel
      have HO := Lib.hid ho
      have HG := Lib.hid hg
      clear ho hg
      by_cases hn : m < ls.length
      · have hlt : (m : Int) < (ls.length : Int) := by omega
        have hrow := (HV3.out m hn).grew HG.out
        obtain ⟨p, c', hv⟩ := shows_form (HV3.out m hn)
        rw [hv] at hrow
        rw [bys_len] at hv hrow
        have hcell : ∃ b o, q = some ⟨b, o, none⟩ ∧ b < w.heap.size ∧ w.cell? ⟨b, o + m, none⟩ = some (.slice p (ls.getD m []).length c') := by
          rcases HV2.out with ⟨b, o, c2, he, hb2, hc⟩ | ⟨p2, c2, he, h0⟩
          · simp only [Value.slice.injEq] at he
            exact ⟨b, o, he.1, hb2, hc m _ (by rw [← hv]; simp [List.getD, HV1.out, hn])⟩
          · exfalso
            have := HV1.out
            rw [h0] at this
            simp at this
            omega
        obtain ⟨b, o, rfl, hbw, hcell⟩ := hcell
        have hcell2 := HG.out.cell hcell
        have hsz2 := HG.out.size
        have hstep := Lib.hid (catk_step ls m hn)
        have hlen2 := catk_len ls m hn
        obtain ⟨x, hx⟩ : ∃ x, ls.getD m [] = x := ⟨_, rfl⟩
        rw [hx] at hcell hcell2 hrow hstep hlen2
        have HR := Lib.hid hrow
        clear hv hx hcell hrow
        by_cases h100 : 100 < x.length
        · have hd : decide (100 < (x.length : Int)) = true := decide_eq_true (by omega)
          go_wp2
          go_ret
          exact ⟨rfl, HG.out⟩
        · have hd : decide (100 < (x.length : Int)) = false := decide_eq_false (by omega)
          clear h4
          go_wp2_with (at_builtin; refine stop_of ?_)
          unfold Stop
          refine wpList_appends rfl _ _ _ rfl _ ib _ 1 under_bs hi hz hsz hby rfl w _ _ _ rfl rfl _ (bys x) HG.out (by exact HO.out) (by exact HR.out) (bys_one x) (by rw [bys_len, bys_len]; simp only [maxLen]; omega) (by rw [bys_len, bys_len]; omega) ?_
          intro v2 w3 ho2 hg2
          rw [← hstep.out] at ho2
          go_wp2
          exact ⟨⟨m + 1, by omega, by go_num, ho2, by omega, hg2⟩, by simp only [intOf]; omega⟩
      · obtain rfl : m = ls.length := by omega
        rw [catk_all] at HO hlen
        obtain ⟨A, hA⟩ : ∃ A, ls.flatten = A := ⟨_, rfl⟩
        rw [hA] at HO hlen
        have hAb : ∀ x ∈ A, x < 256 := fun x hx => by
          rw [← hA] at hx
          obtain ⟨l, hl1, hl2⟩ := List.mem_flatten.1 hx
          exact HB.out l hl1 x hl2
        have hA800 : A.length ≤ 800 := by omega
        obtain ⟨p, c2, hv⟩ := shows_form HO.out.shows
        rw [bys_len] at hv
        subst hv
        have HA := Lib.hid hA
        have HAB := Lib.hid hAb
        have hsl := sum_len A
        have hie : ieq (sum A) (sum A) = true := decide_eq_true rfl
        have hlsf : ls.flatten.length ≤ 1073741824 := by rw [hA]; omega
        clear hA hAb hmk hlen hn h4 HV1 HV2 HV3
        go_wp2_with (go_at_call 14; refine stop_of ?_)
        unfold Stop
        refine (of_w ls _ _ HB.out (by omega) hlsf (HS.out.grew HG.out)).mono ?_
        rintro e w2 ⟨rfl, hg2⟩
        rw [HA.out]
        have HG2 := Lib.hid (HG.out.trans hg2)
        have HO2 := Lib.hid (HO.out.grew hg2)
        clear hg2 HO HG hlsf HS HB
        go_wp2_with (go_at_call 12; refine stop_of ?_)
        unfold Stop
        refine (sum_w A _ _ (by omega) HAB.out (by have := HO2.out.shows; exact this)).mono ?_
        rintro e w3 ⟨rfl, hg3⟩
        have HG3 := Lib.hid (HG2.out.trans hg3)
        have HO3 := Lib.hid (HO2.out.grew hg3)
        clear hg3 HG2 HO2
        go_wp2_with (go_at_call 14; refine stop_of ?_)
        unfold Stop
        refine (of_w [A] _ _ (by simp; exact HAB.out) (by simp) (by simp; omega) (rows_one w3 _ A HO3.out.shows)).mono ?_
        rintro e w4 ⟨rfl, hg4⟩
        rw [show ([A] : List (List Nat)).flatten = A by simp]
        have hg34 : Grew w3 w4 := (show Grew w3 _ from (by repeat (first | with_reducible exact Grew.refl _ | with_reducible apply Grew.alloc | with_reducible apply Grew.grow | with_reducible apply Grew.drew | with_reducible apply Grew.drewN))).trans hg4
        have HG4 := Lib.hid (HG3.out.trans hg34)
        have HO4 := Lib.hid (HO3.out.grew hg34)
        clear hg4 hg34 HG3 HO3
        go_wp2_with (go_at_call 12; refine stop_of ?_)
        unfold Stop
        refine (sum_w A _ _ (by omega) HAB.out (by have := HO4.out.shows; exact this)).mono ?_
        rintro e w5 ⟨rfl, hg5⟩
        have HG5 := Lib.hid (HG4.out.trans hg5)
        have HO5 := Lib.hid (HO4.out.grew hg5)
        clear hg5 HG4 HO4
        by_cases k0 : k < 0
        · have d0 : decide (k < 0) = true := decide_eq_true k0
          go_wp2
          first | refine wp_region_pure_lit_g (by kernel_rfl) (by kernel_rfl) ?_ | refine wp_region_pure_lit (by kernel_rfl) (by kernel_rfl) ?_
          repeat (go_big_quiet_step ((fail)))
          refine wpQuiet_nil ?_
          intro _ hw'
          obtain ⟨δ1, hw''⟩ := hw'
          subst hw''
          go_wp2
          go_ret
          exact ⟨rfl, HG5.out.grow _⟩
        · have d0 : decide (k < 0) = false := decide_eq_false k0
          obtain ⟨n, rfl⟩ : ∃ n : Nat, k = n := ⟨k.toNat, by omega⟩
          by_cases k1 : A.length < n
          · have d1 : decide ((A.length : Int) < (n : Int)) = true := decide_eq_true (by omega)
            go_wp2
            first | refine wp_region_pure_lit_g (by kernel_rfl) (by kernel_rfl) ?_ | refine wp_region_pure_lit (by kernel_rfl) (by kernel_rfl) ?_
            repeat (go_big_quiet_step ((fail)))
            refine wpQuiet_nil ?_
            intro _ hw'
            obtain ⟨δ1, hw''⟩ := hw'
            subst hw''
            go_wp2
            go_ret
            exact ⟨rfl, HG5.out.grow _⟩
          · have d1 : decide (A.length < n) = false := decide_eq_false k1
            have hfl : ([A.take n, A.drop n] : List (List Nat)).flatten = A := by simp
            have hfb : ∀ l ∈ [A.take n, A.drop n], ∀ x ∈ l, x < 256 := by
              intro l hl x hx
              simp only [List.mem_cons, List.not_mem_nil, or_false] at hl
              rcases hl with rfl | rfl
              · exact HAB.out x (List.mem_of_mem_take hx)
              · exact HAB.out x (List.mem_of_mem_drop hx)
            have HFB := Lib.hid hfb
            have SHA := Lib.hid (show Shows w5 (.slice p A.length c2) (bys A) by have := HO5.out.shows; exact this)
            clear hfb
            rcases HO5.out.2 with ⟨he, h0⟩ | ⟨g, cap, cur, he, hbg, hhg, hnc, hcm, _, _⟩
            · simp only [Value.slice.injEq] at he
              obtain ⟨rfl, _, rfl⟩ := he
              have hA0 : A = [] := by rw [bys_len] at h0; exact List.length_eq_zero_iff.1 h0
              have hn0 : n = 0 := by rw [hA0] at k1; simp at k1; exact k1
              subst hn0
              subst hA0
              have SP1 := Lib.hid (show Shows w5 (.slice none 0 0) (bys (([] : List Nat).take 0)) from .inr ⟨_, _, rfl, rfl⟩)
              clear k1 k0
              go_wp2
              refine wp_region_flow (by kernel_rfl) ?_
              intro δf
              apply wpFlow_quiets [0,1,2,3,4,5,6,7,8] (by decide +kernel) (by decide +kernel) (by kernel_rfl) (by intro _ _ _ d _ h; cases d <;> exact h) _
              · intro A hA δ'
                simp only [pickOps_cons, pickOps_nil, pick1_zero, pick1_succ]
                repeat (go_big_quiet_step ((fail)))
                exact wpQuiet_nil hA.out.symm
              apply wpFlow_quiets [9,10,11,12,13,14,17] (by decide +kernel) (by decide +kernel) (by kernel_rfl) (by intro _ _ _ d _ h; cases d <;> exact h) _
              · intro A hA δ'
                simp only [pickOps_cons, pickOps_nil, pick1_zero, pick1_succ]
                repeat (go_big_quiet_step ((fail)))
                exact wpQuiet_nil hA.out.symm
              refine wpFlow_one 15 (by decide +kernel) (by kernel_rfl) (by kernel_rfl) ?_
              refine wpFlowS_intro ?_
              simp only [pickOps_cons, pickOps_nil, pick1_zero, pick1_succ]
              intro δf
              go_wp2_with (fail)
              refine ⟨(by first | assumption | (simp only [grow_grow, Array.append_assoc]; assumption) | exact Grew.refl _ | (simp only [grow_grow, Array.append_assoc]; exact (by repeat (first | with_reducible exact Grew.refl _ | with_reducible apply Grew.alloc | with_reducible apply Grew.grow | with_reducible apply Grew.drew | with_reducible apply Grew.drewN))) | exact (by repeat (first | with_reducible exact Grew.refl _ | with_reducible apply Grew.alloc | with_reducible apply Grew.grow | with_reducible apply Grew.drew | with_reducible apply Grew.drewN))), ?_⟩
              have z3 := fun a δ => of_gr [([] : List Nat).take 0, []] _ _ HFB.out (by simp) (by simp) (rows_two_g w5 a _ (.slice none 0 0) _ _ SP1.out (.inr ⟨_, _, rfl, rfl⟩)) δ
              rw [show ([([] : List Nat).take 0, []] : List (List Nat)).flatten = [] from rfl] at z3
              have z4 := fun a δ => sum_gr' [] (.slice none 0 0) ((w5.grow a).alloc (.cells #[.slice none 0 0, .slice none 0 0] 22)) (by omega) HAB.out (SHA.out.grew (by repeat (first | with_reducible exact Grew.refl _ | with_reducible apply Grew.alloc | with_reducible apply Grew.grow | with_reducible apply Grew.drew | with_reducible apply Grew.drewN))) δ
              apply wpFlow_quiets [16] (by decide +kernel) (by decide +kernel) (by kernel_rfl) (by intro _ _ _ d _ h; cases d <;> exact h) _
              · intro A hA δ'
                simp only [pickOps_cons, pickOps_nil, pick1_zero, pick1_succ]
                repeat (go_big_quiet_step ((go_at_call 14; exact Calls.pure_of_g (z3 _ _))))
                exact wpQuiet_nil hA.out.symm
              clear z3
              apply wpFlow_quiets [18,19,20,21] (by decide +kernel) (by decide +kernel) (by kernel_rfl) (by intro _ _ _ d _ h; cases d <;> exact h) _
              · intro A hA δ'
                simp only [pickOps_cons, pickOps_nil, pick1_zero, pick1_succ]
                repeat (go_big_quiet_step ((go_at_call 12; exact Calls.pure_of_g (z4 _ _))))
                exact wpQuiet_nil hA.out.symm
              refine wpFlow_end (by decide +kernel) (by kernel_rfl) ?_
              intro δf
              go_wp2
              go_ret
              exact ⟨rfl, HG5.out.trans (by repeat (first | with_reducible exact Grew.refl _ | with_reducible apply Grew.alloc | with_reducible apply Grew.grow | with_reducible apply Grew.drew | with_reducible apply Grew.drewN))⟩
            · rw [bys_len] at he
              simp only [Value.slice.injEq] at he
              obtain ⟨rfl, _, rfl⟩ := he
              rw [bys_len] at hnc
              have hcell : ∀ j, j < A.length → w5.cell? ⟨g, 0 + j, none⟩ = (bys A)[j]? := fun j hj => by
                rw [Nat.zero_add, own_cell HO5.out j (by rw [bys_len]; exact hj), List.getElem?_eq_getElem]
              have hgs : g < w5.heap.size := (Array.getElem?_eq_some_iff.1 hhg).1
              have sp1 : Shows w5 (.slice (some ⟨g, 0, none⟩) n c2) (bys (A.take n)) := by
                have := shows_part (o := 0) (c := c2) hgs hcell 0 n c2 (by omega)
                simpa using this
              have hnI : (n : Int) ≤ (c2 : Int) := by omega
              have HNA := Lib.hid (show n ≤ A.length by omega)
              have hn0 : (0 : Int) ≤ (n : Int) := by omega
              have SP1 := Lib.hid sp1
              have HCELL := Lib.hid hcell
              clear k1 hcell sp1 hbg hhg hcm HO5 k0
              by_cases hnc2 : n < c2
              · have sp2 : Shows w5 (.slice (some ⟨g, n, none⟩) (A.length - n) (c2 - n)) (bys (A.drop n)) := by
                  have := shows_part (o := 0) (c := c2) hgs HCELL.out n (A.length - n) (c2 - n) (by have := HNA.out; omega)
                  rw [Nat.zero_add, List.take_of_length_le (by rw [List.length_drop]; omega)] at this
                  exact this
                have SP2 := Lib.hid sp2
                have hne : ¬ c2 = n := by omega
                clear sp2
                go_wp2
                refine wp_region_flow (by kernel_rfl) ?_
                intro δf
                apply wpFlow_quiets [0,1,2,3,4,5,6,7,8] (by decide +kernel) (by decide +kernel) (by kernel_rfl) (by intro _ _ _ d _ h; cases d <;> exact h) _
                · intro A hA δ'
                  simp only [pickOps_cons, pickOps_nil, pick1_zero, pick1_succ]
                  repeat (go_big_quiet_step ((fail)))
                  exact wpQuiet_nil hA.out.symm
                have hnA : (n : Int) ≤ (A.length : Int) := by have := HNA.out; omega
                apply wpFlow_quiets [9,10,11,12,13,14,17] (by decide +kernel) (by decide +kernel) (by kernel_rfl) (by intro _ _ _ d _ h; cases d <;> exact h) _
                · intro A hA δ'
                  simp only [pickOps_cons, pickOps_nil, pick1_zero, pick1_succ]
                  repeat (go_big_quiet_step ((fail)))
                  exact wpQuiet_nil hA.out.symm
                refine wpFlow_one 15 (by decide +kernel) (by kernel_rfl) (by kernel_rfl) ?_
                refine wpFlowS_intro ?_
                simp only [pickOps_cons, pickOps_nil, pick1_zero, pick1_succ]
                intro δf
                go_wp2_with (fail)
                refine ⟨(by first | assumption | (simp only [grow_grow, Array.append_assoc]; assumption) | exact Grew.refl _ | (simp only [grow_grow, Array.append_assoc]; exact (by repeat (first | with_reducible exact Grew.refl _ | with_reducible apply Grew.alloc | with_reducible apply Grew.grow | with_reducible apply Grew.drew | with_reducible apply Grew.drewN))) | exact (by repeat (first | with_reducible exact Grew.refl _ | with_reducible apply Grew.alloc | with_reducible apply Grew.grow | with_reducible apply Grew.drew | with_reducible apply Grew.drewN))), ?_⟩
                have z3 := fun a δ => of_gr [A.take n, A.drop n] _ _ HFB.out (by simp) (by rw [hfl]; omega) (rows_two_g w5 a _ _ _ _ SP1.out SP2.out) δ
                rw [hfl] at z3
                have z4 := fun a δ => sum_gr' A (.slice (some ⟨g, 0, none⟩) A.length c2) ((w5.grow a).alloc (.cells #[.slice (some ⟨g, 0, none⟩) n c2, .slice (some ⟨g, n, none⟩) (A.length - n) (c2 - n)] 22)) (by omega) HAB.out (SHA.out.grew (by repeat (first | with_reducible exact Grew.refl _ | with_reducible apply Grew.alloc | with_reducible apply Grew.grow | with_reducible apply Grew.drew | with_reducible apply Grew.drewN))) δ
                apply wpFlow_quiets [16] (by decide +kernel) (by decide +kernel) (by kernel_rfl) (by intro _ _ _ d _ h; cases d <;> exact h) _
                · intro A hA δ'
                  simp only [pickOps_cons, pickOps_nil, pick1_zero, pick1_succ]
                  repeat (go_big_quiet_step ((go_at_call 14; exact Calls.pure_of_g (z3 _ _))))
                  exact wpQuiet_nil hA.out.symm
                clear z3
                apply wpFlow_quiets [18,19,20,21] (by decide +kernel) (by decide +kernel) (by kernel_rfl) (by intro _ _ _ d _ h; cases d <;> exact h) _
                · intro A hA δ'
                  simp only [pickOps_cons, pickOps_nil, pick1_zero, pick1_succ]
                  repeat (go_big_quiet_step ((go_at_call 12; exact Calls.pure_of_g (z4 _ _))))
                  exact wpQuiet_nil hA.out.symm
                refine wpFlow_end (by decide +kernel) (by kernel_rfl) ?_
                intro δf
                go_wp2
                go_ret
                exact ⟨rfl, HG5.out.trans (by repeat (first | with_reducible exact Grew.refl _ | with_reducible apply Grew.alloc | with_reducible apply Grew.grow | with_reducible apply Grew.drew | with_reducible apply Grew.drewN))⟩
              · have hAn : A.length = n := by have := HNA.out; omega
                obtain rfl : n = c2 := by omega
                rw [hAn] at SHA ⊢
                rw [hAn] at d1
                have e0 : A.drop n = [] := List.drop_of_length_le (by omega)
                rw [e0] at HFB hfl
                clear hnc2 hnI hnc hAn HNA hn0 e0
                go_wp2
                refine wp_region_flow (by kernel_rfl) ?_
                intro δf
                apply wpFlow_quiets [0,1,2,3,4,5,6,7,8] (by decide +kernel) (by decide +kernel) (by kernel_rfl) (by intro _ _ _ d _ h; cases d <;> exact h) _
                · intro A hA δ'
                  simp only [pickOps_cons, pickOps_nil, pick1_zero, pick1_succ]
                  repeat (go_big_quiet_step ((fail)))
                  exact wpQuiet_nil hA.out.symm
                apply wpFlow_quiets [9,10,11,12,13,14,17] (by decide +kernel) (by decide +kernel) (by kernel_rfl) (by intro _ _ _ d _ h; cases d <;> exact h) _
                · intro A hA δ'
                  simp only [pickOps_cons, pickOps_nil, pick1_zero, pick1_succ]
                  repeat (go_big_quiet_step ((fail)))
                  exact wpQuiet_nil hA.out.symm
                refine wpFlow_one 15 (by decide +kernel) (by kernel_rfl) (by kernel_rfl) ?_
                refine wpFlowS_intro ?_
                simp only [pickOps_cons, pickOps_nil, pick1_zero, pick1_succ]
                intro δf
                go_wp2_with (fail)
                refine ⟨(by first | assumption | (simp only [grow_grow, Array.append_assoc]; assumption) | exact Grew.refl _ | (simp only [grow_grow, Array.append_assoc]; exact (by repeat (first | with_reducible exact Grew.refl _ | with_reducible apply Grew.alloc | with_reducible apply Grew.grow | with_reducible apply Grew.drew | with_reducible apply Grew.drewN))) | exact (by repeat (first | with_reducible exact Grew.refl _ | with_reducible apply Grew.alloc | with_reducible apply Grew.grow | with_reducible apply Grew.drew | with_reducible apply Grew.drewN))), ?_⟩
                have z3 := fun a δ => of_gr [A.take n, []] _ _ HFB.out (by simp) (by rw [hfl]; omega) (rows_two_g w5 a _ (.slice (some ⟨g, 0, none⟩) 0 0) _ _ SP1.out (.inr ⟨_, _, rfl, rfl⟩)) δ
                rw [hfl] at z3
                have z4 := fun a δ => sum_gr' A (.slice (some ⟨g, 0, none⟩) n n) ((w5.grow a).alloc (.cells #[.slice (some ⟨g, 0, none⟩) n n, .slice (some ⟨g, 0, none⟩) 0 0] 22)) (by omega) HAB.out (SHA.out.grew (by repeat (first | with_reducible exact Grew.refl _ | with_reducible apply Grew.alloc | with_reducible apply Grew.grow | with_reducible apply Grew.drew | with_reducible apply Grew.drewN))) δ
                apply wpFlow_quiets [16] (by decide +kernel) (by decide +kernel) (by kernel_rfl) (by intro _ _ _ d _ h; cases d <;> exact h) _
                · intro A hA δ'
                  simp only [pickOps_cons, pickOps_nil, pick1_zero, pick1_succ]
                  repeat (go_big_quiet_step ((go_at_call 14; exact Calls.pure_of_g (z3 _ _))))
                  exact wpQuiet_nil hA.out.symm
                clear z3
                apply wpFlow_quiets [18,19,20,21] (by decide +kernel) (by decide +kernel) (by kernel_rfl) (by intro _ _ _ d _ h; cases d <;> exact h) _
                · intro A hA δ'
                  simp only [pickOps_cons, pickOps_nil, pick1_zero, pick1_succ]
                  repeat (go_big_quiet_step ((go_at_call 12; exact Calls.pure_of_g (z4 _ _))))
                  exact wpQuiet_nil hA.out.symm
                refine wpFlow_end (by decide +kernel) (by kernel_rfl) ?_
                intro δf
                go_wp2
                go_ret
                exact ⟨rfl, HG5.out.trans (by repeat (first | with_reducible exact Grew.refl _ | with_reducible apply Grew.alloc | with_reducible apply Grew.grow | with_reducible apply Grew.drew | with_reducible apply Grew.drewN))⟩
end Go.Proofs.Ytmnnmndnpkanlaa
