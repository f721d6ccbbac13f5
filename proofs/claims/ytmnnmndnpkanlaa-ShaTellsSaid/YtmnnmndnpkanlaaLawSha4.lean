/- ShaTells. -/
import Derived.Test.YtmnnmndnpkanlaaLawSha2
import Derived.Test.YtmnnmndnpkanlaaRefSha5
namespace Go.Proofs.Ytmnnmndnpkanlaa
set_option linter.unusedVariables false
set_option linter.unusedSimpArgs false
open Go.RowKit
theorem rpad_str (l : List Nat) (q : Option Addr) (c : Nat) (w : World) (hl : l.length ≤ 1073741824) (hv : Shows w (.slice q l.length c) (bys l)) :
    Calls Try.prog 11 #[.slice q l.length c] w fun e w' => ∃ v, e = .returned v ∧ (∀ δ, (convert 22 9 v).run Try.prog (w'.grow δ) = .ok (.string (bstr (pad l))) (w'.grow δ)) ∧ Grew w w' := by
  refine (rpad_w l _ w hl hv).mono ?_
  rintro e w' ⟨v, rfl, ho, hg⟩
  exact ⟨v, rfl, fun δ => shows_string (ho.shows.grew ⟨δ, rfl⟩), hg⟩
theorem rsum_gr (l : List Nat) (v : Value) (w : World) (hl : l.length ≤ 1073741824) (hb : ∀ c ∈ l, c < 256) (hv : Shows w v (bys l)) (δ : Junk) :
    Calls Try.prog 13 #[v] (w.grow δ) fun e w' => e = .returned (.agg (iv (sum l))) ∧ Grew (w.grow δ) w' := rsum_w l v _ hl hb (hv.grew ⟨δ, rfl⟩)
set_option maxRecDepth 100000 in
set_option maxHeartbeats 6400000 in
theorem shaTells_walk (q : Option Addr) (c : Nat) (l : List Nat) (hb : ∀ x ∈ l, x < 256) (hm : l.length ≤ maxLen) (w : World) (hs : Shows w (.slice q l.length c) (bys l)) :
    Calls Try.prog 3 #[.slice q l.length c] w fun e w' => e = .returned (.bool true) ∧ Grew w w' := by
  have HB := Lib.hid hb
  have HS := Lib.hid hs
  clear hb hs hm
  by_cases h4 : 400 < l.length
  · have h4' : decide (400 < (l.length : Int)) = true := decide_eq_true (by omega)
    go_enter Try.func3, Try.ntmps3
    go_wp2_with (go_at_call 9; refine (awake1 _).mono ?_; rintro e w' ⟨rfl, δ, rfl⟩)
    go_ret
    exact ⟨rfl, (by repeat (first | with_reducible exact Grew.refl _ | with_reducible apply Grew.alloc | with_reducible apply Grew.grow | with_reducible apply Grew.drew | with_reducible apply Grew.drewN))⟩
  · have h4' : decide (400 < (l.length : Int)) = false := decide_eq_false (by omega)
    have e1 : ((bstr (pad l)).toList == (bstr (pad l)).toList) = true := by simp
    have e6 : ieq (sum l) (sum l) = true := decide_eq_true rfl
    have e7 := sum_len l
    have hlen : l.length ≤ 1073741824 := by omega
    clear h4
    go_enter Try.func3, Try.ntmps3
    go_wp2_with (go_at_call 9; refine (awake1 _).mono ?_; rintro e w' ⟨rfl, δ, rfl⟩)
    refine wp_region_flow (by kernel_rfl) ?_
    intro δf
    apply wpFlow_quiets [0,3] (by decide +kernel) (by decide +kernel) (by kernel_rfl) (by intro _ _ _ d _ h; cases d <;> exact h) _
    · intro A hA δ'
      simp only [pickOps_cons, pickOps_nil, pick1_zero, pick1_succ]
      repeat (go_big_quiet_step ((fail)))
      exact wpQuiet_nil hA.out.symm
    refine wpFlow_one 1 (by decide +kernel) (by kernel_rfl) (by kernel_rfl) ?_
    refine wpFlowS_intro ?_
    simp only [pickOps_cons, pickOps_nil, pick1_zero, pick1_succ]
    intro δf
    go_wp2_with (go_at_call 10; refine (pad_str l q c _ HB.out hlen (HS.out.grew (by repeat (first | with_reducible exact Grew.refl _ | with_reducible apply Grew.alloc | with_reducible apply Grew.grow | with_reducible apply Grew.drew | with_reducible apply Grew.drewN)))).mono ?_; rintro e w2 ⟨va, rfl, sa, hg⟩)
    refine ⟨(by first | assumption | (simp only [grow_grow, Array.append_assoc]; assumption) | exact Grew.refl _ | (simp only [grow_grow, Array.append_assoc]; exact (by repeat (first | with_reducible exact Grew.refl _ | with_reducible apply Grew.alloc | with_reducible apply Grew.grow | with_reducible apply Grew.drew | with_reducible apply Grew.drewN))) | exact (by repeat (first | with_reducible exact Grew.refl _ | with_reducible apply Grew.alloc | with_reducible apply Grew.grow | with_reducible apply Grew.drew | with_reducible apply Grew.drewN))), ?_⟩
    have g2 : Grew w w2 := (show Grew w _ from (by repeat (first | with_reducible exact Grew.refl _ | with_reducible apply Grew.alloc | with_reducible apply Grew.grow | with_reducible apply Grew.drew | with_reducible apply Grew.drewN))).trans hg
    apply wpFlow_quiets [2] (by decide +kernel) (by decide +kernel) (by kernel_rfl) (by intro _ _ _ d _ h; cases d <;> exact h) _
    · intro A hA δ'
      simp only [pickOps_cons, pickOps_nil, pick1_zero, pick1_succ]
      repeat (go_big_quiet_step ((fail)))
      exact wpQuiet_nil hA.out.symm
    refine wpFlow_one 4 (by decide +kernel) (by kernel_rfl) (by kernel_rfl) ?_
    refine wpFlowS_intro ?_
    simp only [pickOps_cons, pickOps_nil, pick1_zero, pick1_succ]
    intro δf
    go_wp2_with (go_at_call 11; refine (rpad_str l q c _ hlen ((HS.out.grew g2).grew (by repeat (first | with_reducible exact Grew.refl _ | with_reducible apply Grew.alloc | with_reducible apply Grew.grow | with_reducible apply Grew.drew | with_reducible apply Grew.drewN)))).mono ?_; rintro e w3 ⟨vb, rfl, sb, hg2⟩)
    refine ⟨(by first | assumption | (simp only [grow_grow, Array.append_assoc]; assumption) | exact Grew.refl _ | (simp only [grow_grow, Array.append_assoc]; exact (by repeat (first | with_reducible exact Grew.refl _ | with_reducible apply Grew.alloc | with_reducible apply Grew.grow | with_reducible apply Grew.drew | with_reducible apply Grew.drewN))) | exact (by repeat (first | with_reducible exact Grew.refl _ | with_reducible apply Grew.alloc | with_reducible apply Grew.grow | with_reducible apply Grew.drew | with_reducible apply Grew.drewN))), ?_⟩
    have g3 : Grew w w3 := g2.trans ((show Grew w2 _ from (by repeat (first | with_reducible exact Grew.refl _ | with_reducible apply Grew.alloc | with_reducible apply Grew.grow | with_reducible apply Grew.drew | with_reducible apply Grew.drewN))).trans hg2)
    have z1 := sum_gr l _ w3 hlen HB.out (HS.out.grew g3)
    have z2 := rsum_gr l _ w3 hlen HB.out (HS.out.grew g3)
    clear hg hg2
    apply wpFlow_quiets [5,6,7,8,9] (by decide +kernel) (by decide +kernel) (by kernel_rfl) (by intro _ _ _ d _ h; cases d <;> exact h) _
    · intro A hA δ'
      simp only [pickOps_cons, pickOps_nil, pick1_zero, pick1_succ]
      repeat (go_big_quiet_step ((go_at_call 12; exact Calls.pure_of_g (z1 _))))
      exact wpQuiet_nil hA.out.symm
    clear z1
    apply wpFlow_quiets [10,11,12,13,14] (by decide +kernel) (by decide +kernel) (by kernel_rfl) (by intro _ _ _ d _ h; cases d <;> exact h) _
    · intro A hA δ'
      simp only [pickOps_cons, pickOps_nil, pick1_zero, pick1_succ]
      repeat (go_big_quiet_step ((go_at_call 13; exact Calls.pure_of_g (z2 _))))
      exact wpQuiet_nil hA.out.symm
    refine wpFlow_end (by decide +kernel) (by kernel_rfl) ?_
    intro δf
    go_wp2
    go_ret
    exact ⟨rfl, Grew.grow g3 _⟩
end Go.Proofs.Ytmnnmndnpkanlaa
