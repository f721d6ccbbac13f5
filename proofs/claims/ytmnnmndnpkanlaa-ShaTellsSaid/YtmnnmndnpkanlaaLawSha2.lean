/- ShaPads, ShaZero. -/
import Derived.Test.YtmnnmndnpkanlaaPadsMath
import Derived.Test.YtmnnmndnpkanlaaAwake1
import Derived.Test.YtmnnmndnpkanlaaFlow
import Derived.Test.YtmnnmndnpkanlaaIdEq
namespace Go.Proofs.Ytmnnmndnpkanlaa
set_option linter.unusedVariables false
set_option linter.unusedSimpArgs false
open Go.RowKit
set_option maxRecDepth 100000 in
set_option maxHeartbeats 3200000 in
theorem shaPads_walk (q : Option Addr) (c : Nat) (l : List Nat) (hb : ∀ x ∈ l, x < 256) (hm : l.length ≤ maxLen) (w : World) (hs : Shows w (.slice q l.length c) (bys l)) :
    Calls Try.prog 4 #[.slice q l.length c] w fun e w' => e = .returned (.bool true) ∧ Grew w w' := by
  have HB := Lib.hid hb
  have HS := Lib.hid hs
  clear hb hs hm
  by_cases h4 : 400 < l.length
  · have h4' : decide (400 < (l.length : Int)) = true := decide_eq_true (by omega)
    go_enter Try.func4, Try.ntmps4
    go_wp2_with (go_at_call 9; refine (awake1 _).mono ?_; rintro e w' ⟨rfl, δ, rfl⟩)
    go_ret
    exact ⟨rfl, (by repeat (first | with_reducible exact Grew.refl _ | with_reducible apply Grew.alloc | with_reducible apply Grew.grow | with_reducible apply Grew.drew | with_reducible apply Grew.drewN))⟩
  · have h4' : decide (400 < (l.length : Int)) = false := decide_eq_false (by omega)
    go_enter Try.func4, Try.ntmps4
    go_wp2_with (first
      | (go_at_call 9; refine (awake1 _).mono ?_; rintro e w' ⟨rfl, δ, rfl⟩)
      | (go_at_call 10; refine stop_of ?_))
    unfold Stop
    refine (pad_o l _ _ (by omega) (HS.out.grew (by repeat (first | with_reducible exact Grew.refl _ | with_reducible apply Grew.alloc | with_reducible apply Grew.grow | with_reducible apply Grew.drew | with_reducible apply Grew.drewN)))).mono ?_
    rintro e w2 ⟨b, cap, K, rfl, hN, hcap, hcap2, hb1, hb2, hcs, hg⟩
    have hg2 : Grew w w2 := (show Grew w (w.grow δ) from (by repeat (first | with_reducible exact Grew.refl _ | with_reducible apply Grew.alloc | with_reducible apply Grew.grow | with_reducible apply Grew.drew | with_reducible apply Grew.drewN))).trans hg
    have hsh : Shows w2 (.slice q l.length c) (bys l) := HS.out.grew hg2
    obtain ⟨N, hN2⟩ : ∃ N, 64 * K = N := ⟨_, rfl⟩
    have hp := pad_len' l
    have hz := padz_lt l
    rw [hN2] at hN hcap hcs ⊢
    have hsp : Shows w2 (.slice (some ⟨b, 0, none⟩) l.length cap) (bys l) := by
      have : Shows w2 (.slice (some ⟨b, 0, none⟩) (bys l).length cap) (bys l) := .inl ⟨b, 0, cap, rfl, hb2, fun j u hj => by
        have hj2 : j < l.length := by
          have := (List.getElem?_eq_some_iff.1 hj).1
          rwa [bys_len] at this
        rw [hcs j (by omega)]
        have e : byteAt (pad l) j = l[j] := by
          unfold pad; rw [byteAt_app, if_pos hj2, byteAt_eq _ _ hj2]
        rw [e]
        simp [bys, hj2] at hj
        rw [← hj]⟩
      rwa [bys_len] at this
    have s1 : ∀ δ, (convert 22 9 (.slice q l.length c)).run Try.prog (w2.grow δ) = .ok (.string (bstr l)) (w2.grow δ) := fun δ => shows_string (hsh.grew ⟨δ, rfl⟩)
    have s2 : ∀ δ, (convert 22 9 (.slice (some ⟨b, 0, none⟩) l.length cap)).run Try.prog (w2.grow δ) = .ok (.string (bstr l)) (w2.grow δ) := fun δ => shows_string (hsp.grew ⟨δ, rfl⟩)
    have e128 : w2.cell? ⟨b, l.length, none⟩ = some (.int .u8 128) := by
      have := hcs l.length (by omega)
      rw [Nat.zero_add, pad_at_len] at this
      exact this
    have eN2 : w2.cell? ⟨b, N - 2, none⟩ = some (.int .u8 ((8 * l.length / 256 : Nat) : Int)) := by
      have := hcs (N - 2) (by omega)
      rw [Nat.zero_add, hN, (pad_at_end l (by omega)).1] at this
      rw [hN]; exact this
    have eN1 : w2.cell? ⟨b, N - 1, none⟩ = some (.int .u8 ((8 * l.length % 256 : Nat) : Int)) := by
      have := hcs (N - 1) (by omega)
      rw [Nat.zero_add, hN, (pad_at_end l (by omega)).2] at this
      rw [hN]; exact this
    have EZ := Lib.hid (fun j (h1 : l.length < j) (h2 : j < N - 2) => show w2.cell? ⟨b, j, none⟩ = some (.int .u8 0) by
      have := hcs j (by omega)
      rw [Nat.zero_add, pad_at_zero l (by omega) j h1 (by omega)] at this
      exact this)
    have f1 : decide ((N : Int) < (l.length : Int) + 9) = false := decide_eq_false (by omega)
    have f2 : decide ((l.length : Int) + 9 + 64 ≤ (N : Int)) = false := decide_eq_false (by omega)
    have f3 : (N : Int) % 64 = 0 := by omega
    have hlN : l.length < N := by omega
    have hlN' : (l.length : Int) < (N : Int) := by omega
    have hlc : (l.length : Int) ≤ (cap : Int) := by omega
    have hl4 : (l.length : Int) ≤ 400 := by omega
    have hN5 : (N : Int) ≤ 480 := by omega
    have HZ := Lib.hid (And.intro hN (And.intro hp hz))
    have HG := Lib.hid hg2
    clear hg2 hg hcs hN hp hz hN2 hsh hsp hb1 HS HB
    clear h4
    go_wp2
    first | refine wp_region_pure_lit_g (by kernel_rfl) (by kernel_rfl) ?_ | refine wp_region_pure_lit (by kernel_rfl) (by kernel_rfl) ?_
    repeat (go_big_quiet_step ((fail)))
    refine wpQuiet_nil ?_
    intro _ hw'
    obtain ⟨δ1, hw''⟩ := hw'
    subst hw''
    go_wp2
    clear s1 s2 e128 f1 f2 f3
    go_loopw [6] (fun n wr => ∃ k : Nat, l.length < k ∧ k ≤ N - 2 ∧ n = .int .i64 k ∧ wr = w2.grow δ1) (fun n _ => N - (intOf n).toNat)
    case atStart => have h := HZ.out; exact ⟨l.length + 1, by omega, by omega, by go_num, rfl⟩
    case round =>
      obtain ⟨k, hk1, hk, rfl, rfl⟩ := hrel
      by_cases hn : k < N - 2
      · have hlt : (k : Int) < (N : Int) - 2 := by omega
        have hkN : (k : Int) < (N : Int) := by omega
        have hcell := EZ.out k hk1 hn
        have hkk : (k : Int) ≤ 500 := by omega
        go_wp2
        exact ⟨⟨k + 1, by omega, by omega, by go_num, by trivial⟩, by simp only [intOf]; omega⟩
      · have h := HZ.out
        obtain rfl : k = N - 2 := by omega
        have i2 : (N : Int) - 2 = ((N - 2 : Nat) : Int) := by omega
        have i1 : (N : Int) - 1 = ((N - 1 : Nat) : Int) := by omega
        have j2 : ((N - 2 : Nat) : Int) < (N : Int) := by omega
        have j1 : ((N - 1 : Nat) : Int) < (N : Int) := by omega
        have he : (256 * ((8 * l.length / 256 : Nat) : Int) + ((8 * l.length % 256 : Nat) : Int)) = 8 * (l.length : Int) := by omega
        have b1 : (8 * l.length / 256 : Nat) < 256 := by omega
        have b2 : (8 * l.length % 256 : Nat) < 256 := by omega
        clear hk1 hk hn h
        obtain ⟨n2, hn2⟩ : ∃ n2, N - 2 = n2 := ⟨_, rfl⟩
        obtain ⟨n1, hn1⟩ : ∃ n1, N - 1 = n1 := ⟨_, rfl⟩
        obtain ⟨x, hx⟩ : ∃ x, 8 * l.length / 256 = x := ⟨_, rfl⟩
        obtain ⟨y, hy⟩ : ∃ y, 8 * l.length % 256 = y := ⟨_, rfl⟩
        rw [hx, hy] at he
        rw [hx] at b1 eN2
        rw [hy] at b2 eN1
        rw [hn2] at i2 j2 eN2 ⊢
        rw [hn1] at i1 j1 eN1
        clear hx hy hn1 hn2
        go_wp2
        first | refine wp_region_pure_lit_g (by kernel_rfl) (by kernel_rfl) ?_ | refine wp_region_pure_lit (by kernel_rfl) (by kernel_rfl) ?_
        repeat (go_big_quiet_step ((fail)))
        refine wpQuiet_nil ?_
        intro _ hw'
        obtain ⟨δ1, hw''⟩ := hw'
        subst hw''
        go_wp2
        go_ret
        exact ⟨rfl, Grew.grow HG.out _⟩
theorem pad_inj (a b : List Nat) (ha : a.length ≤ 400) (hb : b.length ≤ 400) (h : pad a = pad b) : a = b := by
  have hl : (pad a).length = (pad b).length := by rw [h]
  have h1 := pad_at_end a ha
  have h2 := pad_at_end b hb
  rw [← h] at h2
  have e : 8 * a.length = 8 * b.length := by omega
  have e2 : a.length = b.length := by omega
  rw [← pad_take a, ← pad_take b, h, e2]
theorem pad_str (l : List Nat) (q : Option Addr) (c : Nat) (w : World) (hb : ∀ x ∈ l, x < 256) (hl : l.length ≤ 1073741824) (hv : Shows w (.slice q l.length c) (bys l)) :
    Calls Try.prog 10 #[.slice q l.length c] w fun e w' => ∃ v, e = .returned v ∧ (∀ δ, (convert 22 9 v).run Try.prog (w'.grow δ) = .ok (.string (bstr (pad l))) (w'.grow δ)) ∧ Grew w w' := by
  refine (pad_w' l _ w hl hv).mono ?_
  rintro e w' ⟨v, rfl, ho, hg⟩
  exact ⟨v, rfl, fun δ => shows_string (ho.shows.grew ⟨δ, rfl⟩), hg⟩
theorem conv_str {w : World} {v : Value} {l : List Nat} (h : Shows w v (bys l)) (δ : Junk) : (convert 22 9 v).run Try.prog (w.grow δ) = .ok (.string (bstr l)) (w.grow δ) := shows_string (h.grew ⟨δ, rfl⟩)
theorem sum_gr (l : List Nat) (v : Value) (w : World) (hl : l.length ≤ 1073741824) (hb : ∀ c ∈ l, c < 256) (hv : Shows w v (bys l)) (δ : Junk) :
    Calls Try.prog 12 #[v] (w.grow δ) fun e w' => e = .returned (.agg (iv (sum l))) ∧ Grew (w.grow δ) w' := sum_w l v _ hl hb (hv.grew ⟨δ, rfl⟩)
set_option maxRecDepth 100000 in
set_option maxHeartbeats 6400000 in
theorem shaZero_walk (q : Option Addr) (c : Nat) (l : List Nat) (hb : ∀ x ∈ l, x < 256) (hm : l.length ≤ maxLen) (q1 : Option Addr) (c1 : Nat) (l1 : List Nat) (hb1 : ∀ x ∈ l1, x < 256) (hm1 : l1.length ≤ maxLen) (w : World)
    (hs : Shows w (.slice q l.length c) (bys l)) (hs1 : Shows w (.slice q1 l1.length c1) (bys l1)) :
    Calls Try.prog 5 #[.slice q l.length c, .slice q1 l1.length c1] w fun e w' => e = .returned (.bool true) ∧ Grew w w' := by
  have HB := Lib.hid hb
  have HS := Lib.hid hs
  have HB1 := Lib.hid hb1
  have HS1 := Lib.hid hs1
  clear hb hs hm hb1 hs1 hm1
  by_cases h4 : 400 < l.length
  · have h4' : decide (400 < (l.length : Int)) = true := decide_eq_true (by omega)
    go_enter Try.func5, Try.ntmps5
    go_wp2_with (go_at_call 9; refine (awake1 _).mono ?_; rintro e w' ⟨rfl, δ, rfl⟩)
    go_ret
    exact ⟨rfl, (by repeat (first | with_reducible exact Grew.refl _ | with_reducible apply Grew.alloc | with_reducible apply Grew.grow | with_reducible apply Grew.drew | with_reducible apply Grew.drewN))⟩
  · have h4' : decide (400 < (l.length : Int)) = false := decide_eq_false (by omega)
    by_cases h5 : 400 < l1.length
    · have h5' : decide (400 < (l1.length : Int)) = true := decide_eq_true (by omega)
      go_enter Try.func5, Try.ntmps5
      go_wp2_with (go_at_call 9; refine (awake1 _).mono ?_; rintro e w' ⟨rfl, δ, rfl⟩)
      go_ret
      exact ⟨rfl, (by repeat (first | with_reducible exact Grew.refl _ | with_reducible apply Grew.alloc | with_reducible apply Grew.grow | with_reducible apply Grew.drew | with_reducible apply Grew.drewN))⟩
    · have h5' : decide (400 < (l1.length : Int)) = false := decide_eq_false (by omega)
      have hpp : ∀ x y : List Nat, (∀ c ∈ x, c < 256) → (∀ c ∈ y, c < 256) → ((bstr x).toList == (bstr y).toList) = decide (x = y) := eq_bstr
      have e1 := eq_bstr _ _ (pad_lt l HB.out) (pad_lt l1 HB1.out)
      have e2 := eq_bstr _ _ HB.out HB1.out
      have e3 : (decide (pad l = pad l1) == decide (l = l1)) = true := by
        by_cases h : l = l1
        · subst h; simp
        · have : ¬ pad l = pad l1 := fun hp => h (pad_inj l l1 (by omega) (by omega) hp)
          simp [h, this]
      have hlen : l.length ≤ 1073741824 ∧ l1.length ≤ 1073741824 := by omega
      clear hpp h4 h5
      go_enter Try.func5, Try.ntmps5
      go_wp2_with (go_at_call 9; refine (awake1 _).mono ?_; rintro e w' ⟨rfl, δ, rfl⟩)
      have s1 := conv_str HS.out
      have s2 := conv_str HS1.out
      refine wp_region_flow (by kernel_rfl) ?_
      intro δf
      apply wpFlow_quiets [0,3,7,8,9,10,11] (by decide +kernel) (by decide +kernel) (by kernel_rfl) (by intro _ _ _ d _ h; cases d <;> exact h) _
      · intro A hA δ'
        simp only [pickOps_cons, pickOps_nil, pick1_zero, pick1_succ]
        repeat (go_big_quiet_step ((fail)))
        exact wpQuiet_nil hA.out.symm
      refine wpFlow_one 1 (by decide +kernel) (by kernel_rfl) (by kernel_rfl) ?_
      refine wpFlowS_intro ?_
      simp only [pickOps_cons, pickOps_nil, pick1_zero, pick1_succ]
      intro δf
      go_wp2_with (go_at_call 10; refine (pad_str l q c _ HB.out hlen.1 (HS.out.grew (by repeat (first | with_reducible exact Grew.refl _ | with_reducible apply Grew.alloc | with_reducible apply Grew.grow | with_reducible apply Grew.drew | with_reducible apply Grew.drewN)))).mono ?_; rintro e w2 ⟨va, rfl, sa, hg⟩)
      refine ⟨(by first | assumption | (simp only [grow_grow, Array.append_assoc]; assumption) | exact Grew.refl _ | exact (by repeat (first | with_reducible exact Grew.refl _ | with_reducible apply Grew.alloc | with_reducible apply Grew.grow | with_reducible apply Grew.drew | with_reducible apply Grew.drewN))), ?_⟩
      have g2 : Grew w w2 := (show Grew w _ from (by repeat (first | with_reducible exact Grew.refl _ | with_reducible apply Grew.alloc | with_reducible apply Grew.grow | with_reducible apply Grew.drew | with_reducible apply Grew.drewN))).trans hg
      clear s1 s2
      apply wpFlow_quiets [2] (by decide +kernel) (by decide +kernel) (by kernel_rfl) (by intro _ _ _ d _ h; cases d <;> exact h) _
      · intro A hA δ'
        simp only [pickOps_cons, pickOps_nil, pick1_zero, pick1_succ]
        repeat (go_big_quiet_step ((fail)))
        exact wpQuiet_nil hA.out.symm
      refine wpFlow_one 4 (by decide +kernel) (by kernel_rfl) (by kernel_rfl) ?_
      refine wpFlowS_intro ?_
      simp only [pickOps_cons, pickOps_nil, pick1_zero, pick1_succ]
      intro δf
      go_wp2_with (go_at_call 10; refine (pad_str l1 q1 c1 _ HB1.out hlen.2 ((HS1.out.grew g2).grew (by repeat (first | with_reducible exact Grew.refl _ | with_reducible apply Grew.alloc | with_reducible apply Grew.grow | with_reducible apply Grew.drew | with_reducible apply Grew.drewN)))).mono ?_; rintro e w3 ⟨vb, rfl, sb, hg2⟩)
      refine ⟨(by first | assumption | (simp only [grow_grow, Array.append_assoc]; assumption) | exact Grew.refl _ | exact (by repeat (first | with_reducible exact Grew.refl _ | with_reducible apply Grew.alloc | with_reducible apply Grew.grow | with_reducible apply Grew.drew | with_reducible apply Grew.drewN))), ?_⟩
      have g3 : Grew w w3 := g2.trans ((show Grew w2 _ from (by repeat (first | with_reducible exact Grew.refl _ | with_reducible apply Grew.alloc | with_reducible apply Grew.grow | with_reducible apply Grew.drew | with_reducible apply Grew.drewN))).trans hg2)
      have s1 := conv_str (HS.out.grew g3)
      have s2 := conv_str (HS1.out.grew g3)
      have z1 := sum_gr l _ w3 hlen.1 HB.out (HS.out.grew g3)
      have z2 := sum_gr l1 _ w3 hlen.2 HB1.out (HS1.out.grew g3)
      clear hg hg2
      by_cases hll : l = l1
      · have e4 : decide (l = l1) = true := decide_eq_true hll
        have e5 : decide (pad l = pad l1) = true := decide_eq_true (by rw [hll])
        have e6 : ieq (sum l) (sum l1) = true := decide_eq_true (by rw [hll])
        have e7 := sum_len l
        have e8 := sum_len l1
        rw [e5] at e1
        rw [e4] at e2
        clear hll
        apply wpFlow_quiets [5,6,12,13,14,15,16,17,18,19,20,21] (by decide +kernel) (by decide +kernel) (by kernel_rfl) (by intro _ _ _ d _ h; cases d <;> exact h) _
        · intro A hA δ'
          simp only [pickOps_cons, pickOps_nil, pick1_zero, pick1_succ]
          repeat (go_big_quiet_step ((go_at_call 12; exact Calls.pure_of_g (z1 _))))
          exact wpQuiet_nil hA.out.symm
        clear z1
        apply wpFlow_quiets [22,23,24,25,26,27] (by decide +kernel) (by decide +kernel) (by kernel_rfl) (by intro _ _ _ d _ h; cases d <;> exact h) _
        · intro A hA δ'
          simp only [pickOps_cons, pickOps_nil, pick1_zero, pick1_succ]
          repeat (go_big_quiet_step ((go_at_call 12; exact Calls.pure_of_g (z2 _))))
          exact wpQuiet_nil hA.out.symm
        refine wpFlow_end (by decide +kernel) (by kernel_rfl) ?_
        intro δf
        go_wp2
        go_ret
        exact ⟨rfl, Grew.grow g3 _⟩
      · have e4 : decide (l = l1) = false := decide_eq_false hll
        have e5 : decide (pad l = pad l1) = false := by rw [e4] at e3; simpa using e3
        rw [e5] at e1
        rw [e4] at e2
        apply wpFlow_quiets [5,6,12,13,14,15,16,17,18,19,20,21] (by decide +kernel) (by decide +kernel) (by kernel_rfl) (by intro _ _ _ d _ h; cases d <;> exact h) _
        · intro A hA δ'
          simp only [pickOps_cons, pickOps_nil, pick1_zero, pick1_succ]
          repeat (go_big_quiet_step ((go_at_call 12; exact Calls.pure_of_g (z1 _))))
          exact wpQuiet_nil hA.out.symm
        clear z1
        apply wpFlow_quiets [22,23,24,25,26,27] (by decide +kernel) (by decide +kernel) (by kernel_rfl) (by intro _ _ _ d _ h; cases d <;> exact h) _
        · intro A hA δ'
          simp only [pickOps_cons, pickOps_nil, pick1_zero, pick1_succ]
          repeat (go_big_quiet_step ((go_at_call 12; exact Calls.pure_of_g (z2 _))))
          exact wpQuiet_nil hA.out.symm
        refine wpFlow_end (by decide +kernel) (by kernel_rfl) ?_
        intro δf
        go_wp2
        go_ret
        exact ⟨rfl, Grew.grow g3 _⟩
end Go.Proofs.Ytmnnmndnpkanlaa
