/- ShaLess, ShaEnds. -/
import Derived.Test.YtmnnmndnpkanlaaLess
import Derived.Test.YtmnnmndnpkanlaaAwake1
namespace Go.Proofs.Ytmnnmndnpkanlaa
set_option linter.unusedVariables false
set_option linter.unusedSimpArgs false
open Go.RowKit
theorem less_num (a b : Idb) : lexB a.l b.l = decide (numB a.l < numB b.l) := lexB_num _ _ (by rw [a.len, b.len]) a.lt b.lt
theorem lex_same : ∀ (a b : List Nat), a.length = b.length → lexB a b = false → lexB b a = false → a = b
  | [], [], _, _, _ => rfl
  | [], _ :: _, h, _, _ => by simp at h
  | _ :: _, [], h, _, _ => by simp at h
  | x :: a, y :: b, h, h1, h2 => by
    simp only [lexB, Bool.or_eq_false_iff, decide_eq_false_iff_not, Bool.and_eq_false_iff] at h1 h2
    have e : x = y := by omega
    subst e
    have h3 := h1.2.resolve_left (by simp)
    have h4 := h2.2.resolve_left (by simp)
    rw [lex_same a b (by simpa using h) h3 h4]
theorem ieq_num (a b : Idb) : ieq a.l b.l = decide (numB a.l = numB b.l) := by
  unfold ieq
  rw [Bool.eq_iff_iff, decide_eq_true_eq, decide_eq_true_eq]
  constructor
  · intro h; rw [h]
  · intro h
    refine lex_same _ _ (by rw [a.len, b.len]) ?_ ?_
    · rw [less_num, decide_eq_false_iff_not]; omega
    · rw [less_num, decide_eq_false_iff_not]; omega
set_option maxRecDepth 100000 in
set_option maxHeartbeats 3200000 in
theorem shaLess_walk (a b c : Idb) (w : World) : Calls Try.prog 7 #[.agg (iv a.l), .agg (iv b.l), .agg (iv c.l)] w fun e w' => e = .returned (.bool true) ∧ Grew w w' := by
  have hcase : (lexB a.l b.l = true ∧ lexB b.l a.l = false ∧ ieq a.l b.l = false ∧ lexB b.l c.l = false) ∨ (lexB a.l b.l = true ∧ lexB b.l a.l = false ∧ ieq a.l b.l = false ∧ lexB b.l c.l = true ∧ lexB a.l c.l = true) ∨
      (lexB a.l b.l = false ∧ lexB b.l a.l = false ∧ ieq a.l b.l = true) ∨ (lexB a.l b.l = false ∧ lexB b.l a.l = true ∧ ieq a.l b.l = false) := by
    simp only [less_num, ieq_num, decide_eq_true_eq, decide_eq_false_iff_not]
    omega
  have HC := Lib.hid hcase
  clear hcase
  rcases HC.out with ⟨k1, k2, k3, k4⟩ | ⟨k1, k2, k3, k4, k5⟩ | ⟨k1, k2, k3⟩ | ⟨k1, k2, k3⟩
  all_goals
    clear HC
    go_enter Try.func7, Try.ntmps7
    go_wp2_with (first
      | (go_at_call 9; refine (awake1 _).mono ?_; rintro e w' ⟨rfl, δ, rfl⟩)
      | (go_at_call 15; refine (less_w _ _ _).mono ?_; rintro e w' ⟨rfl, δ, rfl⟩)
      | (go_at_call 16; refine (rless_w _ _ _).mono ?_; rintro e w' ⟨rfl, δ, rfl⟩))
    go_ret
    exact ⟨rfl, (by repeat (first | with_reducible exact Grew.refl _ | with_reducible apply Grew.alloc | with_reducible apply Grew.grow | with_reducible apply Grew.drew | with_reducible apply Grew.drewN))⟩
def hik (k : Nat) : List Nat := (List.range 32).map fun i => if i < k then 255 else 0
theorem hik_len (k : Nat) : (hik k).length = 32 := by simp [hik]
theorem hik_0 : hik 0 = id0 := by decide
theorem hik_set (k : Nat) : (hik k).set k 255 = hik (k + 1) := by
  apply List.ext_getElem
  · simp [hik]
  · intro i h1 h2
    simp only [hik, List.getElem_set, List.getElem_map, List.getElem_range]
    split
    · subst_vars; simp
    · split
      · rw [if_pos (by omega)]
      · rw [if_neg (by omega)]
def Idb.hi : Idb := ⟨hik 32, hik_len 32, by decide⟩
def endk (a b : List Nat) (i k : Nat) : List Nat := (List.range 32).map fun j => if j < i then byteAt a j else if j = i then byteAt a i + 1 else if j < k then byteAt b j else byteAt a j
theorem endk_len (a b : List Nat) (i k : Nat) : (endk a b i k).length = 32 := by simp [endk]
theorem endk_start (a b : List Nat) (i : Nat) (h : a.length = 32) : a.set i (byteAt a i + 1) = endk a b i (i + 1) := by
  apply List.ext_getElem
  · simp [endk, h]
  · intro j h1 h2
    simp only [endk, List.getElem_set, List.getElem_map, List.getElem_range]
    have hj : j < a.length := by simpa using h1
    rw [← byteAt_eq a j hj]
    split
    · subst_vars; simp
    · split
      · rfl
      · rw [if_neg (by omega), if_neg (by omega)]
theorem endk_set (a b : List Nat) (i k : Nat) (h : i < k) : (endk a b i k).set k (byteAt b k) = endk a b i (k + 1) := by
  apply List.ext_getElem
  · simp [endk]
  · intro j h1 h2
    simp only [endk, List.getElem_set, List.getElem_map, List.getElem_range]
    split
    · subst_vars; rw [if_neg (by omega), if_neg (by omega), if_pos (by omega)]
    · split
      · rfl
      · split
        · rfl
        · split
          · rw [if_pos (by omega)]
          · rw [if_neg (by omega)]
theorem endk_at (a b : List Nat) (i k j : Nat) (h : j < 32) : byteAt (endk a b i k) j = if j < i then byteAt a j else if j = i then byteAt a i + 1 else if j < k then byteAt b j else byteAt a j := by
  rw [byteAt_eq _ _ (by rw [endk_len]; exact h)]
  simp [endk]
theorem endk_lt (a b : Idb) (i k : Nat) (h : byteAt a.l i < 255) : ∀ c ∈ endk a.l b.l i k, c < 256 := by
  intro c hc
  obtain ⟨j, _, rfl⟩ := List.mem_map.1 hc
  have h1 := byteAt_lt a.l a.lt j
  have h2 := byteAt_lt b.l b.lt j
  split
  · exact h1
  · split
    · omega
    · split <;> assumption
theorem less_zero (a : Idb) (w : World) : Calls Try.prog 15 #[.agg (iv a.l), .agg (iv id0)] w fun e w' => e = .returned (.bool false) ∧ Grew w w' := by
  have h := less_w a Idb.zero w
  rw [show lexB a.l Idb.zero.l = false by rw [less_num, show numB Idb.zero.l = 0 by decide]; simp] at h
  exact h
theorem less_hi (a : Idb) (w : World) : Calls Try.prog 15 #[.agg (iv (hik 32)), .agg (iv a.l)] w fun e w' => e = .returned (.bool false) ∧ Grew w w' := by
  have h := less_w Idb.hi a w
  have h1 := numB_lt256 a.l a.len a.lt
  have h2 : numB Idb.hi.l = 2 ^ 256 - 1 := by decide +kernel
  rw [show lexB Idb.hi.l a.l = false by rw [less_num, h2, decide_eq_false_iff_not]; have e : B256 = 2 ^ 256 := rfl; omega] at h
  exact h
theorem less_end (a b : Idb) (i : Nat) (h : i < 32) (h2 : byteAt a.l i < 255) (w : World) : Calls Try.prog 15 #[.agg (iv a.l), .agg (iv (endk a.l b.l i 32))] w fun e w' => e = .returned (.bool true) ∧ Grew w w' := by
  have hl := less_w a ⟨endk a.l b.l i 32, endk_len _ _ _ _, endk_lt a b i 32 h2⟩ w
  rw [rless_at a.l (endk a.l b.l i 32) i h a.len (endk_len _ _ _ _) (fun j hj => by rw [endk_at _ _ _ _ _ (by omega), if_pos hj]) (by rw [endk_at _ _ _ _ _ h, if_neg (by omega), if_pos rfl]; omega),
    endk_at _ _ _ _ _ h, if_neg (by omega), if_pos rfl, show decide (byteAt a.l i < byteAt a.l i + 1) = true by simp] at hl
  exact hl
set_option maxRecDepth 100000 in
set_option maxHeartbeats 3200000 in
theorem shaEnds_walk (a b : Idb) (i : Int) (w : World) : Calls Try.prog 8 #[.agg (iv a.l), .agg (iv b.l), .int .i64 i] w fun e w' => e = .returned (.bool true) ∧ Grew w w' := by
  have la := a.len
  have lb := b.len
  have hh := hik_len
  go_enter Try.func8, Try.ntmps8
  go_wp2_with (go_at_call 9; refine (awake1 _).mono ?_; rintro e w' ⟨rfl, δ, rfl⟩)
  go_loopw [9] (fun n wr => ∃ k : Nat, k ≤ 32 ∧ n = .int .i64 k ∧ wr = (((w.alloc (.cells (iv a.l) 26)).alloc (.cells (iv b.l) 26)).grow δ).alloc (.cells (iv (hik k)) 26)) (fun n _ => 32 - (intOf n).toNat)
  case atStart => exact ⟨0, by omega, rfl, by rw [hik_0]⟩
  case round =>
    obtain ⟨k, hk, rfl, rfl⟩ := hrel
    by_cases hn : k < 32
    · have hlt : (k : Int) < 32 := by omega
      have hs := hik_set k
      have ha := iv_at (hik k) k (by rw [hh]; exact hn)
      have hset := iv_set' (hik k) k 255
      clear hk hn
      go_wp2
      exact ⟨⟨k + 1, by omega, by go_num, by rw [← hs, ← hset]; rfl⟩, by simp only [intOf]; omega⟩
    · obtain rfl : k = 32 := by omega
      clear hk hn
      go_wp2_with (go_at_call 15; refine stop_of ?_)
      unfold Stop
      refine (less_zero a _).mono ?_
      rintro e w' ⟨rfl, δ2, rfl⟩
      go_wp2_with (go_at_call 15; refine stop_of ?_)
      unfold Stop
      refine (less_hi a _).mono ?_
      rintro e w' ⟨rfl, δ3, rfl⟩
      have hcase : (i < 0 ∨ (0 ≤ i ∧ 31 < i) ∨ ∃ n : Nat, i = n ∧ n < 32 ∧ byteAt a.l n = 255) ∨ ∃ n : Nat, i = n ∧ n < 32 ∧ byteAt a.l n < 255 := by
        by_cases h0 : i < 0
        · exact .inl (.inl h0)
        · by_cases h1 : 31 < i
          · exact .inl (.inr (.inl ⟨by omega, h1⟩))
          · have hb := byteAt_lt a.l a.lt i.toNat
            by_cases h2 : byteAt a.l i.toNat = 255
            · exact .inl (.inr (.inr ⟨i.toNat, by omega, by omega, h2⟩))
            · exact .inr ⟨i.toNat, by omega, by omega, by omega⟩
      rcases hcase with hc | ⟨n, rfl, hn, hb⟩
      · rcases hc with h0 | ⟨h0, h1⟩ | ⟨n, rfl, hn, hb⟩
        · have h0' : decide (i < 0) = true := decide_eq_true h0
          go_wp2_with (go_at_call 15; refine stop_of ?_)
          unfold Stop
          refine (less_zero a _).mono ?_
          rintro e w' ⟨rfl, δ4, rfl⟩
          go_wp2_with (go_at_call 15; refine stop_of ?_)
          unfold Stop
          refine (less_hi a _).mono ?_
          rintro e w' ⟨rfl, δ5, rfl⟩
          go_wp2
          go_ret
          exact ⟨rfl, (by repeat (first | with_reducible exact Grew.refl _ | with_reducible apply Grew.alloc | with_reducible apply Grew.grow | with_reducible apply Grew.drew | with_reducible apply Grew.drewN))⟩
        · have h0' : decide (i < 0) = false := decide_eq_false (by omega)
          have h1' : decide (31 < i) = true := decide_eq_true h1
          go_wp2_with (go_at_call 15; refine stop_of ?_)
          unfold Stop
          refine (less_zero a _).mono ?_
          rintro e w' ⟨rfl, δ4, rfl⟩
          go_wp2_with (go_at_call 15; refine stop_of ?_)
          unfold Stop
          refine (less_hi a _).mono ?_
          rintro e w' ⟨rfl, δ5, rfl⟩
          go_wp2
          go_ret
          exact ⟨rfl, (by repeat (first | with_reducible exact Grew.refl _ | with_reducible apply Grew.alloc | with_reducible apply Grew.grow | with_reducible apply Grew.drew | with_reducible apply Grew.drewN))⟩
        · have h0' : decide ((n : Int) < 0) = false := decide_eq_false (by omega)
          have h1' : decide (31 < (n : Int)) = false := decide_eq_false (by omega)
          have hlt : (n : Int) < 32 := by omega
          have ha := iv_at a.l n (by omega)
          go_wp2_with (go_at_call 15; refine stop_of ?_)
          unfold Stop
          refine (less_zero a _).mono ?_
          rintro e w' ⟨rfl, δ4, rfl⟩
          go_wp2_with (go_at_call 15; refine stop_of ?_)
          unfold Stop
          refine (less_hi a _).mono ?_
          rintro e w' ⟨rfl, δ5, rfl⟩
          go_wp2
          go_ret
          exact ⟨rfl, (by repeat (first | with_reducible exact Grew.refl _ | with_reducible apply Grew.alloc | with_reducible apply Grew.grow | with_reducible apply Grew.drew | with_reducible apply Grew.drewN))⟩
      · have h0' : decide ((n : Int) < 0) = false := decide_eq_false (by omega)
        have h1' : decide (31 < (n : Int)) = false := decide_eq_false (by omega)
        have hlt : (n : Int) < 32 := by omega
        have ha := iv_at a.l n (by omega)
        have hst := endk_start a.l b.l n la
        have hel := endk_len a.l b.l n
        have hb1 : ((byteAt a.l n : Nat) : Int) + 1 < 256 := by omega
        have hset := iv_set' a.l n (byteAt a.l n + 1)
        rw [hst] at hset
        have hb2 : ((byteAt a.l n + 1 : Nat) : Int) = ((byteAt a.l n : Nat) : Int) + 1 := rfl
        rw [hb2] at hset
        have hb3 : ((byteAt a.l n : Nat) : Int) ≠ 255 := by omega
        go_wp2
        clear ha hst hset hb1 hb2 hb3
        generalize ({ objs := δ2.objs ++ δ3.objs, drawn := δ3.drawn } : Junk) = δ6
        go_loopw [11] (fun m wr => ∃ k : Nat, k ≤ 32 ∧ n < k ∧ m = .int .i64 k ∧ wr = (((((w.alloc (.cells (iv a.l) 26)).alloc (.cells (iv b.l) 26)).grow δ).alloc (.cells (iv (hik 32)) 26)).grow δ6).alloc (.cells (iv (endk a.l b.l n k)) 26)) (fun n _ => 32 - (intOf n).toNat)
        case atStart => exact ⟨n + 1, by omega, by omega, by go_num, rfl⟩
        case round =>
          obtain ⟨k, hk, hnk, rfl, rfl⟩ := hrel
          by_cases hn2 : k < 32
          · have hlt2 : (k : Int) < 32 := by omega
            have hs := endk_set a.l b.l n k hnk
            have hset := iv_set' (endk a.l b.l n k) k (byteAt b.l k)
            rw [hs] at hset
            have ha := iv_at (endk a.l b.l n k) k (by rw [hel]; exact hn2)
            have hb2 := iv_at b.l k (by omega)
            clear hk hn2
            go_wp2
            exact ⟨⟨k + 1, by omega, by omega, by go_num, rfl⟩, by simp only [intOf]; omega⟩
          · obtain rfl : k = 32 := by omega
            clear hk hn2
            go_wp2_with (go_at_call 15; refine stop_of ?_)
            unfold Stop
            refine (less_end a b n hn hb _).mono ?_
            rintro e w' ⟨rfl, δ4, rfl⟩
            go_wp2
            go_ret
            exact ⟨rfl, (by repeat (first | with_reducible exact Grew.refl _ | with_reducible apply Grew.alloc | with_reducible apply Grew.grow | with_reducible apply Grew.drew | with_reducible apply Grew.drewN))⟩
end Go.Proofs.Ytmnnmndnpkanlaa
