/- What the statements of this chapter rest on, part 6. Conditions: none. -/
import Derived.Test.YtnhcamklammcdaaRows
import Derived.Test.YtnhcamklammcdaaM5
/- Rows of ints. -/
namespace Go.Proofs.Ytnhcamklammcdaa
set_option linter.unusedVariables false
set_option linter.unusedSimpArgs false
open Go.RowKit
/-- The cells of ints. -/
def ivs (l : List Nat) : List Value := l.map fun (c : Nat) => Value.int .i64 (c : Int)
theorem ivs_len (l : List Nat) : (ivs l).length = l.length := by simp [ivs]
theorem ivs_append (l m : List Nat) : ivs (l ++ m) = ivs l ++ ivs m := by simp [ivs]
theorem ivs_get (l : List Nat) (i : Nat) (h : i < (ivs l).length) : (ivs l)[i] = .int .i64 ((l.getD i 0 : Nat) : Int) := by
  have : i < l.length := by rwa [ivs_len] at h
  simp [ivs, List.getD, this]
theorem ivs_set (l : List Nat) (i x : Nat) : (ivs l).set i (.int .i64 (x : Int)) = ivs (l.set i x) := by simp [ivs, List.map_set]
theorem under_is : Try.prog.underlying 62 = some (.slice 3) := by kernel_rfl
set_option maxRecDepth 100000 in
theorem info_i : ∃ i, Try.prog.info? 3 = some i ∧ i.zero = some (.int .i64 0) ∧ i.size = 1 ∧ i.bytes = 8 := by
  refine ⟨_, rfl, ?_, ?_, ?_⟩ <;> kernel_rfl
theorem ivs_one (l : List Nat) : ∀ x ∈ ivs l, x.oneCell' = true := by
  intro x hx
  obtain ⟨c, _, rfl⟩ := List.mem_map.1 hx
  rfl
end Go.Proofs.Ytnhcamklammcdaa
/- The document's sizes (printed by gen_sizes.py). -/
namespace Go.Proofs.Ytnhcamklammcdaa
set_option linter.unusedVariables false
set_option linter.unusedSimpArgs false
open Go.RowKit
set_option maxRecDepth 100000
/-- How many leaves the other side has, from the greatest tree on. -/
def szF : Nat → Nat → Nat → List Nat
  | 0, _, _ => []
  | f + 1, n, i => if n ≤ 1 then [] else if i < halfN n then (n - halfN n) :: szF f (halfN n) i else halfN n :: szF f (n - halfN n) (i - halfN n)
def sz (n i : Nat) : List Nat := szF n n i
theorem szF_fuel : ∀ (f f' n i : Nat), n ≤ 1099511627776 → n ≤ f → n ≤ f' → szF f n i = szF f' n i
  | 0, f', n, i, _, h, _ => by
    obtain rfl : n = 0 := by omega
    cases f' with
    | zero => rfl
    | succ f' => simp [szF]
  | f + 1, 0, n, i, _, _, h => by
    obtain rfl : n = 0 := by omega
    simp [szF]
  | f + 1, f' + 1, n, i, hb, h, h' => by
    unfold szF
    by_cases h1 : n ≤ 1
    · rw [if_pos h1, if_pos h1]
    · rw [if_neg h1, if_neg h1]
      have hs := half_sand n (by omega) hb
      have hp := half_pos n
      rw [szF_fuel f f' (halfN n) i (by omega) (by omega) (by omega), szF_fuel f f' (n - halfN n) (i - halfN n) (by omega) (by omega) (by omega)]
theorem sz_one (n i : Nat) (h : n ≤ 1) : sz n i = [] := by
  unfold sz
  cases n with
  | zero => rfl
  | succ n => simp [szF, h]
theorem sz_left (n i : Nat) (h2 : 2 ≤ n) (hb : n ≤ 1099511627776) (h : i < halfN n) : sz n i = (n - halfN n) :: sz (halfN n) i := by
  obtain ⟨m, rfl⟩ : ∃ m, n = m + 1 := ⟨n - 1, by omega⟩
  have hs := half_sand (m + 1) h2 hb
  unfold sz
  rw [szF, if_neg (by omega), if_pos h, szF_fuel m (halfN (m + 1)) _ _ (by omega) (by omega) (by omega)]
theorem sz_right (n i : Nat) (h2 : 2 ≤ n) (hb : n ≤ 1099511627776) (h : ¬ i < halfN n) : sz n i = halfN n :: sz (n - halfN n) (i - halfN n) := by
  obtain ⟨m, rfl⟩ : ∃ m, n = m + 1 := ⟨n - 1, by omega⟩
  have hs := half_sand (m + 1) h2 hb
  have hp := half_pos (m + 1)
  unfold sz
  rw [szF, if_neg (by omega), if_neg h, szF_fuel m (m + 1 - halfN (m + 1)) _ _ (by omega) (by omega) (by omega)]
theorem szF_len : ∀ (f n i : Nat), n ≤ 1099511627776 → (szF f n i).length + 1 ≤ max n 1
  | 0, n, i, _ => by simp [szF]; omega
  | f + 1, n, i, hb => by
    unfold szF
    split
    · simp; omega
    · have hs := half_sand n (by omega) hb
      have hp := half_pos n
      split
      · have := szF_len f (halfN n) i (by omega); simp only [List.length_cons]; omega
      · have := szF_len f (n - halfN n) (i - halfN n) (by omega); simp only [List.length_cons]; omega
theorem sz_len (n i : Nat) (h1 : 1 ≤ n) (hb : n ≤ 1099511627776) : (sz n i).length < n := by
  have := szF_len n n i hb
  unfold sz
  omega
set_option maxRecDepth 100000 in
set_option maxHeartbeats 3200000 in
theorem rsizes_w : ∀ (f n i : Nat), n ≤ f → 1 ≤ n → n ≤ 1000000 → i < n → ∀ w : World,
    Calls Try.prog 35 #[.int .i64 n, .int .i64 i] w fun e w' => ∃ v, e = .returned v ∧ OwnR w' w.heap.size 3 v (ivs (sz n i).reverse) ∧ Grew w w'
  | 0, n, i, hf, h1, _, _, _ => by omega
  | f + 1, n, i, hf, h1, hn, hi, w => by
    obtain ⟨ii, hif, hz, hsz, hby⟩ := info_i
    by_cases h2 : n = 1
    · subst h2
      clear hi hif hz hsz hby
      go_enter Try.func35, Try.ntmps35
      go_wp2
      go_ret
      rw [sz_one 1 i (by omega)]
      exact ⟨_, rfl, OwnR.nil _ _ _, Grew.refl _⟩
    · have hne : ¬ (n : Int) = 1 := by omega
      have hsd := half_sand n (by omega) (by omega)
      have hp := half_pos n
      have hw := fun w => rhalf_w n (by omega) (by omega) w
      have hl := sz_left n i (by omega) (by omega)
      have hr := sz_right n i (by omega) (by omega)
      have ih := rsizes_w f
      obtain ⟨k, hk⟩ : ∃ k, halfN n = k := ⟨_, rfl⟩
      rw [hk] at hsd hp hw hl hr
      have HW := Lib.hid hw
      by_cases hik : i < k
      · have hik' : (i : Int) < (k : Int) := by omega
        have HL := Lib.hid (hl hik)
        have hln := sz_len k i (by omega) (by omega)
        have C1 := Lib.hid (fun w => ih k i (by omega) (by omega) (by omega) hik w)
        have hb : (ivs (sz k i).reverse).length + 1 ≤ 1000001 := by rw [ivs_len, List.length_reverse]; omega
        have e1 : (n : Int) - (k : Int) = ((n - k : Nat) : Int) := by omega
        have hnI : (n : Int) ≤ 1000000 := by omega
        have hkn : (k : Int) ≤ (n : Int) := by omega
        have hk1 : 1 ≤ (k : Int) := by omega
        clear hl hr hw hsd hp hk ih h2 hn h1 hf hi hln
        go_enter Try.func35, Try.ntmps35
        go_wp2_with (first | (go_at_call 47; refine (HW.out _).mono ?_; rintro e w' ⟨rfl, δ, rfl⟩) | (go_at_call 35; refine (C1.out _).mono ?_; rintro e w' ⟨v, rfl, ho, hg⟩; have HO := Lib.hid ho; have HG := Lib.hid hg; clear ho hg) | (at_builtin; refine stop_of ?_))
        unfold Stop
        have HOK : OwnR w' w.heap.size 3 v (ivs (sz k i).reverse) := HO.out.base (Grew.size ⟨δ, rfl⟩)
        have hgw : Grew w w' := (show Grew w (w.grow δ) from ⟨δ, rfl⟩).trans HG.out
        refine wpList_append1 rfl _ _ _ rfl _ ii _ 8 under_is hif hz hsz hby rfl w w' v _ rfl rfl _ hgw (by exact HOK) rfl (by simp only [maxLen]; omega) (by omega) ?_
        intro v2 w3 ho2 hg2
        have he : ivs (sz n i).reverse = ivs (sz k i).reverse ++ [.int .i64 ((n - k : Nat) : Int)] := by rw [HL.out, List.reverse_cons, ivs_append]; rfl
        rw [← he] at ho2
        go_wp2
        go_ret
        exact ⟨_, rfl, ho2, hg2⟩
      · have hik' : ¬ (i : Int) < (k : Int) := by omega
        have HL := Lib.hid (hr hik)
        have hln := sz_len (n - k) (i - k) (by omega) (by omega)
        have e1 : (n : Int) - (k : Int) = ((n - k : Nat) : Int) := by omega
        have e2 : (i : Int) - (k : Int) = ((i - k : Nat) : Int) := by omega
        have C1 := Lib.hid (fun w => ih (n - k) (i - k) (by omega) (by omega) (by omega) (by omega) w)
        have hb : (ivs (sz (n - k) (i - k)).reverse).length + 1 ≤ 1000001 := by rw [ivs_len, List.length_reverse]; omega
        obtain ⟨m, hm⟩ : ∃ m, n - k = m := ⟨_, rfl⟩
        obtain ⟨j, hj⟩ : ∃ j, i - k = j := ⟨_, rfl⟩
        rw [hm] at HL e1 C1 hb
        rw [hj] at HL e2 C1 hb
        have hnI : (n : Int) ≤ 1000000 := by omega
        have hk1 : 1 ≤ (k : Int) := by omega
        have hkn : (k : Int) ≤ (n : Int) := by omega
        have hin : (i : Int) ≤ (n : Int) := by omega
        clear hl hr hw hsd hp hk ih h2 hn h1 hf hi hln hm hj
        go_enter Try.func35, Try.ntmps35
        go_wp2_with (first | (go_at_call 47; refine (HW.out _).mono ?_; rintro e w' ⟨rfl, δ, rfl⟩) | (go_at_call 35; refine (C1.out _).mono ?_; rintro e w' ⟨v, rfl, ho, hg⟩; have HO := Lib.hid ho; have HG := Lib.hid hg; clear ho hg) | (at_builtin; refine stop_of ?_))
        unfold Stop
        have HOK : OwnR w' w.heap.size 3 v (ivs (sz m j).reverse) := HO.out.base (Grew.size ⟨δ, rfl⟩)
        have hgw : Grew w w' := (show Grew w (w.grow δ) from ⟨δ, rfl⟩).trans HG.out
        refine wpList_append1 rfl _ _ _ rfl _ ii _ 8 under_is hif hz hsz hby rfl w w' v _ rfl rfl _ hgw (by exact HOK) rfl (by simp only [maxLen]; omega) (by omega) ?_
        intro v2 w3 ho2 hg2
        have he : ivs (sz n i).reverse = ivs (sz m j).reverse ++ [.int .i64 ((k : Nat) : Int)] := by rw [HL.out, List.reverse_cons, ivs_append]; rfl
        rw [← he] at ho2
        go_wp2
        go_ret
        exact ⟨_, rfl, ho2, hg2⟩
end Go.Proofs.Ytnhcamklammcdaa
/- mmr.steps. -/
namespace Go.Proofs.Ytnhcamklammcdaa
set_option linter.unusedVariables false
set_option linter.unusedSimpArgs false
open Go.RowKit
set_option maxRecDepth 100000
/-- The lists in which a place stands, from the greatest one on: what stands on the other side. -/
def stpF : Nat → Nat → Nat → Nat → List Stp
  | 0, _, _, _ => []
  | f + 1, o, n, i => if n ≤ 1 then [] else if i < o + halfN n then ⟨o + halfN n, n - halfN n, true⟩ :: stpF f o (halfN n) i else ⟨o, halfN n, false⟩ :: stpF f (o + halfN n) (n - halfN n) i
theorem stpF_more : ∀ (f f' o n i : Nat), n ≤ 1099511627776 → n ≤ f → n ≤ f' → stpF f o n i = stpF f' o n i
  | 0, f', o, n, i, _, h, _ => by
    obtain rfl : n = 0 := by omega
    cases f' with
    | zero => rfl
    | succ f' => simp [stpF]
  | f + 1, 0, o, n, i, _, _, h => by
    obtain rfl : n = 0 := by omega
    simp [stpF]
  | f + 1, f' + 1, o, n, i, hb, h, h' => by
    unfold stpF
    by_cases h1 : n ≤ 1
    · rw [if_pos h1, if_pos h1]
    · rw [if_neg h1, if_neg h1]
      have hs := half_sand n (by omega) hb
      have hp := half_pos n
      rw [stpF_more f f' o (halfN n) i (by omega) (by omega) (by omega), stpF_more f f' (o + halfN n) (n - halfN n) i (by omega) (by omega) (by omega)]
theorem stpF_one (f o n i : Nat) (h : n ≤ 1) : stpF f o n i = [] := by
  cases f with
  | zero => rfl
  | succ f => simp [stpF, h]
theorem stpF_left (o n i : Nat) (h2 : 2 ≤ n) (hb : n ≤ 1099511627776) (h : i < o + halfN n) : stpF n o n i = ⟨o + halfN n, n - halfN n, true⟩ :: stpF (halfN n) o (halfN n) i := by
  obtain ⟨m, rfl⟩ : ∃ m, n = m + 1 := ⟨n - 1, by omega⟩
  have hs := half_sand (m + 1) h2 hb
  rw [stpF, if_neg (by omega), if_pos h, stpF_more m (halfN (m + 1)) _ _ _ (by omega) (by omega) (by omega)]
theorem stpF_right (o n i : Nat) (h2 : 2 ≤ n) (hb : n ≤ 1099511627776) (h : ¬ i < o + halfN n) : stpF n o n i = ⟨o, halfN n, false⟩ :: stpF (n - halfN n) (o + halfN n) (n - halfN n) i := by
  obtain ⟨m, rfl⟩ : ∃ m, n = m + 1 := ⟨n - 1, by omega⟩
  have hs := half_sand (m + 1) h2 hb
  have hp := half_pos (m + 1)
  rw [stpF, if_neg (by omega), if_neg h, stpF_more m (m + 1 - halfN (m + 1)) _ _ _ (by omega) (by omega) (by omega)]
theorem stpF_len : ∀ (f o n i : Nat), n ≤ 1099511627776 → (stpF f o n i).length + 1 ≤ max n 1
  | 0, o, n, i, _ => by simp [stpF]; omega
  | f + 1, o, n, i, hb => by
    unfold stpF
    split
    · simp; omega
    · have hs := half_sand n (by omega) hb
      have hp := half_pos n
      split
      · have := stpF_len f o (halfN n) i (by omega); simp only [List.length_cons]; omega
      · have := stpF_len f (o + halfN n) (n - halfN n) i (by omega); simp only [List.length_cons]; omega
/-- A span's block is not the row's. -/
theorem ownE_other {w : World} {base : Nat} {e : TypeId} {v : Value} {ls : List Stp} (h : OwnE 3 Stp.cs w base e v ls) (b : Nat) {x y : Int} (hb : w.rowAt b = sp x y) : v.ownBlock ≠ some b := by
  rcases h.form with ⟨rfl, rfl⟩ | ⟨g, cap, rfl, _⟩
  · simp [Value.ownBlock]
  · intro he
    obtain rfl : g = b := by simpa [Value.ownBlock] using he
    obtain ⟨_, _, hs, _⟩ := ownG_row h
    rw [hb] at hs
    simp only [sp_size] at hs
    omega
theorem ownE_len {α : Type} {k : Nat} {f : α → List Value} {w : World} {b : Nat} {t : TypeId} {v : Value} {l : List α} (h : OwnE k f w b t v l) : ∃ q c, v = .slice q l.length c := by
  obtain ⟨rfl, rfl⟩ | ⟨g, cap, rfl, _⟩ := h.form
  · exact ⟨_, _, rfl⟩
  · exact ⟨_, _, rfl⟩
theorem ownE_setRow {w : World} {base : Nat} {e : TypeId} {v : Value} {ls : List Stp} (h : OwnE 3 Stp.cs w base e v ls) (b : Nat) (hn : v.ownBlock ≠ some b) (cs : Array Value) : OwnE 3 Stp.cs (w.setRow b cs) base e v ls :=
  h.kept (grownBy_setRow w b cs) (.inr hn)
set_option maxHeartbeats 6400000 in
theorem steps_w (N i : Nat) (h1 : 1 ≤ N) (hN : N ≤ 1000000) (hi : i < N) (w : World) :
    Calls Try.prog 31 #[.int .i64 N, .int .i64 i] w fun e w' => ∃ v, e = .returned v ∧ OwnE 3 Stp.cs w' w.heap.size 58 v (stpF N 0 N i).reverse ∧ Grew w w' := by
  obtain ⟨ii, hif, hz, hsz, hby⟩ := info_step
  have hlen := stpF_len N 0 N i (by omega)
  obtain ⟨L, hL⟩ : ∃ L, stpF N 0 N i = L := ⟨_, rfl⟩
  have HL := Lib.hid hL
  rw [hL] at hlen ⊢
  have hlen2 : L.length ≤ 1000000 := by omega
  clear hL
  go_enter Try.func31, Try.ntmps31
  go_wp2
  go_loopw [5, 6] (fun v pt wr => ∃ (acc : List Stp) (o m b : Nat), pt = .pointer (some ⟨b, 0, none⟩) ∧ w.heap.size ≤ b ∧ b < wr.heap.size ∧ wr.rowAt b = sp o m ∧ wr.rowFree b = true ∧ acc ++ stpF m o m i = L ∧ 1 ≤ m ∧ o + m ≤ N ∧ OwnE 3 Stp.cs wr w.heap.size 58 v acc ∧ Grew w wr) (fun v _ _ => L.length - lenV v)
  case atStart =>
    exact ⟨[], 0, N, w.heap.size, rfl, by omega, by simp, by simp [go_sem], by simp [go_sem], HL.out, by omega, by omega, OwnE.nil _ _ _, (by repeat (first | with_reducible exact Grew.refl _ | with_reducible apply Grew.alloc | with_reducible apply Grew.grow | with_reducible apply Grew.drew | with_reducible apply Grew.drewN))⟩
  case round =>
    obtain ⟨acc, o, m, b, rfl, hb, hbs, r1, f1, hacc, hm1, hom, ho, hg⟩ := hrel
    have HO := Lib.hid ho
    have HG := Lib.hid hg
    have HB := Lib.hid hb
    have c0 : wr.cell? ⟨b, 0, none⟩ = some (.int .i64 o) := by rw [cell_rowAt, r1]; rfl
    have c1 : wr.cell? ⟨b, 1, none⟩ = some (.int .i64 m) := by rw [cell_rowAt, r1]; rfl
    clear ho hg hb
    by_cases hm : 2 ≤ m
    · have hgt : (1 : Int) < (m : Int) := by omega
      have hs := half_sand m hm (by omega)
      have hp := half_pos m
      have hh := fun W => mhalf_w m hm (by omega) W
      have hsl := stpF_left o m i hm (by omega)
      have hsr := stpF_right o m i hm (by omega)
      have hal := congrArg List.length hacc
      rw [List.length_append] at hal
      have HAL := Lib.hid (show acc.length ≤ 1000000 by omega)
      obtain ⟨k, hk⟩ : ∃ k, halfN m = k := ⟨_, rfl⟩
      rw [hk] at hs hp hh hsl hsr
      obtain ⟨o2, ho2⟩ : ∃ o2, o + k = o2 := ⟨_, rfl⟩
      obtain ⟨m2, hm2⟩ : ∃ m2, m - k = m2 := ⟨_, rfl⟩
      rw [ho2, hm2] at hsl hsr
      have HH := Lib.hid hh
      have HSL := Lib.hid hsl
      have HSR := Lib.hid hsr
      have HAC := Lib.hid hacc
      have HHS := Lib.hid (And.intro hs (And.intro ho2 (And.intro hm2 (And.intro hm1 hom))))
      have mI : (m : Int) ≤ 1000000 := by omega
      have oI : (o : Int) ≤ 1000000 := by omega
      have kI : (k : Int) ≤ 1000000 := by omega
      have kM : (k : Int) ≤ (m : Int) := by omega
      have e1 : (o : Int) + (k : Int) = (o2 : Int) := by omega
      have e2 : (m : Int) - (k : Int) = (m2 : Int) := by omega
      clear hs hh hsl hsr hacc hk hm hal ho2 hm2 hm1 hom
      by_cases hik : i < o2
      · have hi2 : (i : Int) < (o2 : Int) := by omega
        have hi3 : decide ((i : Int) < (o2 : Int)) = true := decide_eq_true hi2
        have HIK := Lib.hid hik
        clear hik
        go_wp2_with (go_at_call 50; refine (HH.out _).mono ?_; rintro e w' ⟨rfl, δ, rfl⟩)
        refine code_abs ?_
        intro Z hZ
        have c0 : Z.cell? ⟨b, 0, none⟩ = some (.int .i64 o) := by rw [hZ]; simp [go_sem, c0, hbs]
        have c1 : Z.cell? ⟨b, 1, none⟩ = some (.int .i64 m) := by rw [hZ]; simp [go_sem, c1, hbs]
        have g0 : Grew wr Z := by rw [hZ]; exact (by repeat (first | with_reducible exact Grew.refl _ | with_reducible apply Grew.alloc | with_reducible apply Grew.grow | with_reducible apply Grew.drew | with_reducible apply Grew.drewN))
        have hbZ : b < Z.heap.size := Nat.lt_of_lt_of_le hbs g0.size
        have G0 := Lib.hid g0
        have rbZ : Z.rowAt b = sp o m := by rw [Grew.rowAt g0 _ hbs]; exact r1
        have fbZ : Z.rowFree b = true := by rw [Grew.rowFree g0 _ hbs]; exact f1
        have HCG := Lib.hid (KeepsX.grew Z (.slice none 0 0))
        have HC0 := Lib.hid (KeepsX.refl Z (.slice none 0 0))
        clear hZ g0
        refine wp_region_flowC (KeepsX Z (.slice none 0 0)) HCG.out HC0.out (by kernel_rfl) ?_
        intro δf
        apply wpFlowC_quiets [0,1,2,3,4,5,6,7,8,9,10,11,12] HCG.out ⟨_, HC0.out⟩ (by decide +kernel) (by decide +kernel) (by kernel_rfl) (by intro _ _ _ d _ h; cases d <;> exact h) _
        · intro A hA Y hY
          ((have d0 := hY.cell c0 (by simp [Value.ownBlock]); have d1 := hY.cell c1 (by simp [Value.ownBlock]); have hbY : b < Y.heap.size := Nat.lt_of_lt_of_le hbZ hY.1))
          simp only [pickOps_cons, pickOps_nil, pick1_zero, pick1_succ]
          repeat (go_big_quiet_step ((fail)))
          exact wpQuiet_nil hA.out.symm
        refine flowC_abs ?_
        intro V hV
        have gV : Grew Z V := by rw [hV]; exact (by repeat (first | with_reducible exact Grew.refl _ | with_reducible apply Grew.alloc | with_reducible apply Grew.grow | with_reducible apply Grew.drew | with_reducible apply Grew.drewN))
        have GV := Lib.hid gV
        have zV := gV.size
        clear hV gV
        refine wpFlowC_two 13 14 (by decide +kernel) (by kernel_rfl) (by kernel_rfl) ?_ ?_
        unfold wpFlowCS
        simp only [pickOps_cons, pickOps_nil, pick1_zero, pick1_succ]
        intro δf hCf
        go_wp2_with (fail)
        refine ⟨(by first | assumption | exact HCG.out _ _ hCf (by assumption) | (refine HCG.out _ _ hCf ?_; simp only [grow_grow]; exact (by repeat (first | with_reducible exact Grew.refl _ | with_reducible apply Grew.alloc | with_reducible apply Grew.grow | with_reducible apply Grew.drew | with_reducible apply Grew.drewN))) | exact HCG.out _ _ hCf (by repeat (first | with_reducible exact Grew.refl _ | with_reducible apply Grew.alloc | with_reducible apply Grew.grow | with_reducible apply Grew.drew | with_reducible apply Grew.drewN))), ?_⟩
        refine flowC_abs ?_
        intro W1 hW
        have q1 : W1.rowAt (V.heap.size + δf.n) = sp 0 0 := by rw [hW]; simp [go_sem]
        have q2 : W1.rowFree (V.heap.size + δf.n) = true := by rw [hW]; simp [go_sem]
        have q3 : V.heap.size + δf.n < W1.heap.size := by rw [hW]; simp
        have gW1 : Grew V W1 := by rw [hW]; exact (by repeat (first | with_reducible exact Grew.refl _ | with_reducible apply Grew.alloc | with_reducible apply Grew.grow | with_reducible apply Grew.drew | with_reducible apply Grew.drewN))
        obtain ⟨b8, hb8⟩ : ∃ b8, V.heap.size + δf.n = b8 := ⟨_, rfl⟩
        have zb8 : Z.heap.size ≤ b8 := by omega
        have GW1 := Lib.hid (GV.out.trans gW1)
        rw [hb8] at q1 q2 q3 ⊢
        clear hW gW1 hb8
        refine wpFlowC_one 14 (by decide +kernel) (by kernel_rfl) (by kernel_rfl) ?_
        unfold wpFlowCS
        simp only [pickOps_cons, pickOps_nil, pick1_zero, pick1_succ]
        intro δf hCf
        go_wp2_with (fail)
        refine ⟨(by first | assumption | exact HCG.out _ _ hCf (by assumption) | (refine HCG.out _ _ hCf ?_; simp only [grow_grow]; exact (by repeat (first | with_reducible exact Grew.refl _ | with_reducible apply Grew.alloc | with_reducible apply Grew.grow | with_reducible apply Grew.drew | with_reducible apply Grew.drewN))) | exact HCG.out _ _ hCf (by repeat (first | with_reducible exact Grew.refl _ | with_reducible apply Grew.alloc | with_reducible apply Grew.grow | with_reducible apply Grew.drew | with_reducible apply Grew.drewN))), ?_⟩
        refine flowC_abs ?_
        intro W2 hW
        have g1 : Grew W1 W2 := by rw [hW]; exact (by repeat (first | with_reducible exact Grew.refl _ | with_reducible apply Grew.alloc | with_reducible apply Grew.grow | with_reducible apply Grew.drew | with_reducible apply Grew.drewN))
        have p1 : W2.rowAt (W1.heap.size + δf.n) = sp 0 0 := by rw [hW]; simp [go_sem]
        have p2 : W2.rowFree (W1.heap.size + δf.n) = true := by rw [hW]; simp [go_sem]
        have p3 : W1.heap.size + δf.n < W2.heap.size := by rw [hW]; simp
        obtain ⟨b9, hb9⟩ : ∃ b9, W1.heap.size + δf.n = b9 := ⟨_, rfl⟩
        have zb9 : Z.heap.size ≤ b9 := by omega
        have hne : b8 ≠ b9 := by omega
        rw [hb9] at p1 p2 p3 ⊢
        replace q1 : W2.rowAt b8 = sp 0 0 := by rw [Grew.rowAt g1 _ q3]; exact q1
        replace q2 : W2.rowFree b8 = true := by rw [Grew.rowFree g1 _ q3]; exact q2
        replace q3 : b8 < W2.heap.size := Nat.lt_of_lt_of_le q3 g1.size
        have GW2 := Lib.hid (GW1.out.trans g1)
        clear hW g1 hb9 GW1
        rotate_left
        unfold wpFlowCS
        simp only [pickOps_cons, pickOps_nil, pick1_zero, pick1_succ]
        intro δf hCf
        go_wp2_with (fail)
        refine ⟨(by first | assumption | exact HCG.out _ _ hCf (by assumption) | (refine HCG.out _ _ hCf ?_; simp only [grow_grow]; exact (by repeat (first | with_reducible exact Grew.refl _ | with_reducible apply Grew.alloc | with_reducible apply Grew.grow | with_reducible apply Grew.drew | with_reducible apply Grew.drewN))) | exact HCG.out _ _ hCf (by repeat (first | with_reducible exact Grew.refl _ | with_reducible apply Grew.alloc | with_reducible apply Grew.grow | with_reducible apply Grew.drew | with_reducible apply Grew.drewN))), ?_⟩
        refine flowC_abs ?_
        intro W1 hW
        have p1 : W1.rowAt (V.heap.size + δf.n) = sp 0 0 := by rw [hW]; simp [go_sem]
        have p2 : W1.rowFree (V.heap.size + δf.n) = true := by rw [hW]; simp [go_sem]
        have p3 : V.heap.size + δf.n < W1.heap.size := by rw [hW]; simp
        have gW1 : Grew V W1 := by rw [hW]; exact (by repeat (first | with_reducible exact Grew.refl _ | with_reducible apply Grew.alloc | with_reducible apply Grew.grow | with_reducible apply Grew.drew | with_reducible apply Grew.drewN))
        obtain ⟨b9, hb9⟩ : ∃ b9, V.heap.size + δf.n = b9 := ⟨_, rfl⟩
        have zb9 : Z.heap.size ≤ b9 := by omega
        have GW1 := Lib.hid (GV.out.trans gW1)
        rw [hb9] at p1 p2 p3 ⊢
        clear hW gW1 hb9
        refine wpFlowC_one 13 (by decide +kernel) (by kernel_rfl) (by kernel_rfl) ?_
        unfold wpFlowCS
        simp only [pickOps_cons, pickOps_nil, pick1_zero, pick1_succ]
        intro δf hCf
        go_wp2_with (fail)
        refine ⟨(by first | assumption | exact HCG.out _ _ hCf (by assumption) | (refine HCG.out _ _ hCf ?_; simp only [grow_grow]; exact (by repeat (first | with_reducible exact Grew.refl _ | with_reducible apply Grew.alloc | with_reducible apply Grew.grow | with_reducible apply Grew.drew | with_reducible apply Grew.drewN))) | exact HCG.out _ _ hCf (by repeat (first | with_reducible exact Grew.refl _ | with_reducible apply Grew.alloc | with_reducible apply Grew.grow | with_reducible apply Grew.drew | with_reducible apply Grew.drewN))), ?_⟩
        refine flowC_abs ?_
        intro W2 hW
        have g1 : Grew W1 W2 := by rw [hW]; exact (by repeat (first | with_reducible exact Grew.refl _ | with_reducible apply Grew.alloc | with_reducible apply Grew.grow | with_reducible apply Grew.drew | with_reducible apply Grew.drewN))
        have q1 : W2.rowAt (W1.heap.size + δf.n) = sp 0 0 := by rw [hW]; simp [go_sem]
        have q2 : W2.rowFree (W1.heap.size + δf.n) = true := by rw [hW]; simp [go_sem]
        have q3 : W1.heap.size + δf.n < W2.heap.size := by rw [hW]; simp
        obtain ⟨b8, hb8⟩ : ∃ b8, W1.heap.size + δf.n = b8 := ⟨_, rfl⟩
        have zb8 : Z.heap.size ≤ b8 := by omega
        have hne : b8 ≠ b9 := by omega
        rw [hb8] at q1 q2 q3 ⊢
        replace p1 : W2.rowAt b9 = sp 0 0 := by rw [Grew.rowAt g1 _ p3]; exact p1
        replace p2 : W2.rowFree b9 = true := by rw [Grew.rowFree g1 _ p3]; exact p2
        replace p3 : b9 < W2.heap.size := Nat.lt_of_lt_of_le p3 g1.size
        have GW2 := Lib.hid (GW1.out.trans g1)
        clear hW g1 hb8 GW1
        all_goals
          refine wpFlowC_one 15 (by decide +kernel) (by kernel_rfl) (by kernel_rfl) ?_
          unfold wpFlowCS
          simp only [pickOps_cons, pickOps_nil, pick1_zero, pick1_succ]
          intro δf hCf
          go_wp2
          have kW2 := KeepsX.setRow (KeepsX.grew _ _ _ _ HC0.out GW2.out) b8 (sp o k) zb8
          refine ⟨KeepsX.grew _ _ _ _ kW2 ⟨δf, rfl⟩, ?_⟩
          refine flowC_abs ?_
          intro W3 hW
          have e9 : W3.heap[b9]? = W2.heap[b9]? := by rw [hW, heap_grow_old _ _ _ (by rw [setRow_size]; exact p3), World.heap_setRow_ne _ _ _ _ hne]
          have gW3 : Grew Z W3 := by rw [hW]; exact (Grew.setRow_new GW2.out _ _ zb8).grow _
          have kW3 : KeepsX Z (.slice none 0 0) W3 := by rw [hW]; exact KeepsX.grew _ _ _ _ kW2 ⟨δf, rfl⟩
          replace q1 : W3.rowAt b8 = sp o k := by rw [hW]; simp [go_sem, q3, q2]
          replace q2 : W3.rowFree b8 = true := by rw [hW]; simp [go_sem, q3, q2]
          replace q3 : b8 < W3.heap.size := by rw [hW]; simp [setRow_size]; omega
          replace p1 : W3.rowAt b9 = sp 0 0 := by rw [rowAt_of_heap e9]; exact p1
          replace p2 : W3.rowFree b9 = true := by rw [rowFree_of_heap e9]; exact p2
          replace p3 : b9 < W3.heap.size := by rw [hW]; simp [setRow_size]; omega
          have GW3 := Lib.hid gW3
          have KW3 := Lib.hid kW3
          clear kW2 kW3 gW3 e9 hW hCf GW2
          refine wpFlowC_one 16 (by decide +kernel) (by kernel_rfl) (by kernel_rfl) ?_
          unfold wpFlowCS
          simp only [pickOps_cons, pickOps_nil, pick1_zero, pick1_succ]
          intro δf hCf
          go_wp2
          have kW4 := KeepsX.setRow KW3.out b9 (sp o2 m2) zb9
          refine ⟨KeepsX.grew _ _ _ _ kW4 ⟨δf, rfl⟩, ?_⟩
          refine flowC_abs ?_
          intro W4 hW
          have e8 : W4.heap[b8]? = W3.heap[b8]? := by rw [hW, heap_grow_old _ _ _ (by rw [setRow_size]; exact q3), World.heap_setRow_ne _ _ _ _ (Ne.symm hne)]
          have gW4 : Grew Z W4 := by rw [hW]; exact (Grew.setRow_new GW3.out _ _ zb9).grow _
          have kk4 : KeepsX Z (.slice none 0 0) W4 := by rw [hW]; exact KeepsX.grew _ _ _ _ kW4 ⟨δf, rfl⟩
          replace p1 : W4.rowAt b9 = sp o2 m2 := by rw [hW]; simp [go_sem, p3, p2]
          replace p2 : W4.rowFree b9 = true := by rw [hW]; simp [go_sem, p3, p2]
          replace p3 : b9 < W4.heap.size := by rw [hW]; simp [setRow_size]; omega
          replace q1 : W4.rowAt b8 = sp o k := by rw [rowAt_of_heap e8]; exact q1
          replace q2 : W4.rowFree b8 = true := by rw [rowFree_of_heap e8]; exact q2
          replace q3 : b8 < W4.heap.size := by rw [hW]; simp [setRow_size]; omega
          have GW4 := Lib.hid gW4
          have KW4 := Lib.hid kk4
          clear kW4 kk4 gW4 e8 hW hCf GW3 KW3
          have nbo : (Value.slice none 0 0).ownBlock ≠ some b := by simp [Value.ownBlock]
          have rb4 : W4.rowAt b = sp o m := by rw [KeepsX.rowAt KW4.out hbZ nbo]; exact rbZ
          have fb4 : W4.rowFree b = true := by rw [KeepsX.rowFree KW4.out hbZ nbo]; exact fbZ
          have zb4 : b < W4.heap.size := Nat.lt_of_lt_of_le hbZ KW4.out.1
          have OV4 := Lib.hid ((HO.out.grew G0.out).grew GW4.out)
          have ne8 := Lib.hid (show b8 ≠ b by omega)
          have ne9 := Lib.hid (show b9 ≠ b by omega)
          clear rbZ fbZ hbZ nbo r1 f1 hbs zV
          refine wpFlowC_end (by decide +kernel) (by kernel_rfl) ?_
          intro δf hCf
          refine exit_abs ?_
          intro V hV
          have gV4 : Grew W4 V := by rw [hV]; exact (by repeat (first | with_reducible exact Grew.refl _ | with_reducible apply Grew.alloc | with_reducible apply Grew.grow | with_reducible apply Grew.drew | with_reducible apply Grew.drewN))
          replace p1 : V.rowAt b9 = sp o2 m2 := by rw [Grew.rowAt gV4 _ p3]; exact p1
          replace p2 : V.rowFree b9 = true := by rw [Grew.rowFree gV4 _ p3]; exact p2
          replace p3 : b9 < V.heap.size := Nat.lt_of_lt_of_le p3 gV4.size
          replace q1 : V.rowAt b8 = sp o k := by rw [Grew.rowAt gV4 _ q3]; exact q1
          replace q2 : V.rowFree b8 = true := by rw [Grew.rowFree gV4 _ q3]; exact q2
          replace q3 : b8 < V.heap.size := Nat.lt_of_lt_of_le q3 gV4.size
          have rb : V.rowAt b = sp o m := by rw [Grew.rowAt gV4 _ zb4]; exact rb4
          have fb : V.rowFree b = true := by rw [Grew.rowFree gV4 _ zb4]; exact fb4
          have zb : b < V.heap.size := Nat.lt_of_lt_of_le zb4 gV4.size
          have cp : V.cell? ⟨b9, 0, none⟩ = some (.int .i64 o2) := by rw [cell_rowAt, p1]; rfl
          have OV := Lib.hid (OV4.out.grew gV4)
          have GV := Lib.hid ((HG.out.trans (G0.out.trans GW4.out)).trans gV4)
          have n8 := ownE_other OV.out b8 q1
          have n9 := ownE_other OV.out b9 p1
          have nb := ownE_other OV.out b rb
          have m8 : ¬ (u5.ownBlock = some b8 ∨ b8 = b) := fun h => h.elim n8 (ne8.out)
          have m9 : ¬ (u5.ownBlock = some b9 ∨ b9 = b) := fun h => h.elim n9 (ne9.out)
          clear ne8 ne9
          clear gV4 hV c0 c1 hCf rb4 fb4 zb4 HCG HC0 hne GW4 KW4 OV4
          go_wp2
          have HCG := Lib.hid (KeepsP.grew V (fun x => u5.ownBlock = some x ∨ x = b))
          have HC0 := Lib.hid (KeepsP.refl V (fun x => u5.ownBlock = some x ∨ x = b))
          refine wp_region_flowC (KeepsP V (fun x => u5.ownBlock = some x ∨ x = b)) HCG.out HC0.out (by kernel_rfl) ?_
          intro δf
          apply wpFlowC_quiets [0,1,2,5] HCG.out ⟨_, HC0.out⟩ (by decide +kernel) (by decide +kernel) (by kernel_rfl) (by intro _ _ _ d _ h; cases d <;> exact h) _
          · intro A hA Y hY
            (have d8 := KeepsP.rowAt hY q3 m8; have d9 := KeepsP.rowAt hY p3 m9; have l8 := Nat.lt_of_lt_of_le q3 hY.1; have l9 := Nat.lt_of_lt_of_le p3 hY.1; rw [q1] at d8; rw [p1] at d9)
            simp only [pickOps_cons, pickOps_nil, pick1_zero, pick1_succ]
            repeat (go_big_quiet_step ((fail)))
            exact wpQuiet_nil hA.out.symm
          refine flowC_abs ?_
          intro U hU
          have gU : Grew V U := by rw [hU]; exact (by repeat (first | with_reducible exact Grew.refl _ | with_reducible apply Grew.alloc | with_reducible apply Grew.grow | with_reducible apply Grew.drew | with_reducible apply Grew.drewN))
          have GU := Lib.hid gU
          clear hU gU
          refine wpFlowC_one 3 (by decide +kernel) (by kernel_rfl) (by kernel_rfl) ?_
          unfold wpFlowCS
          simp only [pickOps_cons, pickOps_nil, pick1_zero, pick1_succ]
          intro δf hCf
          go_wp2_with (fail)
          refine ⟨(by first | assumption | exact HCG.out _ _ hCf (by assumption) | (refine HCG.out _ _ hCf ?_; simp only [grow_grow]; exact (by repeat (first | with_reducible exact Grew.refl _ | with_reducible apply Grew.alloc | with_reducible apply Grew.grow | with_reducible apply Grew.drew | with_reducible apply Grew.drewN))) | exact HCG.out _ _ hCf (by repeat (first | with_reducible exact Grew.refl _ | with_reducible apply Grew.alloc | with_reducible apply Grew.grow | with_reducible apply Grew.drew | with_reducible apply Grew.drewN))), ?_⟩
          refine flowC_abs ?_
          intro U2 hU
          have gU2 : Grew U U2 := by rw [hU]; exact (by repeat (first | with_reducible exact Grew.refl _ | with_reducible apply Grew.alloc | with_reducible apply Grew.grow | with_reducible apply Grew.drew | with_reducible apply Grew.drewN))
          have sh : ShowsE 3 Stp.cs U2 (.slice (some ⟨U.heap.size + δf.n, 0, none⟩) 1 1) [(⟨o2, m2, true⟩ : Stp)] := by rw [hU]; exact showsE_one_g Stp.cs_len U δf (⟨o2, m2, true⟩ : Stp) _ _ (Nat.le_refl _)
          have SH := Lib.hid sh
          have GU2 := Lib.hid (GU.out.trans gU2)
          obtain ⟨b3, hb3⟩ : ∃ b3, U.heap.size + δf.n = b3 := ⟨_, rfl⟩
          rw [hb3] at SH ⊢
          clear hU sh gU2 hb3 GU hCf
          refine wpFlowC_one 4 (by decide +kernel) (by kernel_rfl) (by kernel_rfl) ?_
          unfold wpFlowCS
          simp only [pickOps_cons, pickOps_nil, pick1_zero, pick1_succ]
          intro δf hCf
          refine wpList_appendE Stp.cs_len (by decide) rfl _ _ _ rfl _ ii _ 24 under_steps hif hz hsz hby rfl Stp.cs_one w _ w.heap.size _ _ rfl rfl acc [(⟨o2, m2, true⟩ : Stp)] ((GV.out.trans GU2.out).grow _) (Nat.le_refl _) (by have := (GV.out.trans GU2.out).size; simp; omega) (by exact (OV.out.grew GU2.out).grew (by repeat (first | with_reducible exact Grew.refl _ | with_reducible apply Grew.alloc | with_reducible apply Grew.grow | with_reducible apply Grew.drew | with_reducible apply Grew.drewN))) (by exact SH.out.grew (by repeat (first | with_reducible exact Grew.refl _ | with_reducible apply Grew.alloc | with_reducible apply Grew.grow | with_reducible apply Grew.drew | with_reducible apply Grew.drewN))) (by have := HAL.out; simp [maxLen]; omega) (by have := HAL.out; simp; omega) (by simp) ?_
          intro v2 U3 ho2 hg2 hgb
          have kU3 := KeepsP.grown hCf hgb (fun k e => .inl (.inl e))
          refine wpList_nil_then ?_
          refine ⟨kU3, ?_⟩
          have rb3 : U3.rowAt b = sp o m := by rw [rowAt_of_heap (hgb.block b (Nat.lt_of_lt_of_le zb (GU2.out.grow δf).size) (fun e => nb e.symm)), Grew.rowAt (GU2.out.grow δf) _ zb]; exact rb
          have fb3 : U3.rowFree b = true := by rw [rowFree_of_heap (hgb.block b (Nat.lt_of_lt_of_le zb (GU2.out.grow δf).size) (fun e => nb e.symm)), Grew.rowFree (GU2.out.grow δf) _ zb]; exact fb
          have zb3 : b < U3.heap.size := Nat.lt_of_lt_of_le zb kU3.1
          have HO2 := Lib.hid ho2
          have HG2 := Lib.hid hg2
          have KU := Lib.hid kU3
          have nb3 := ownE_other ho2 b rb3
          clear ho2 hg2 hgb kU3 hCf SH GU2 rb fb zb
          refine wpFlowC_one 6 (by decide +kernel) (by kernel_rfl) (by kernel_rfl) ?_
          unfold wpFlowCS
          simp only [pickOps_cons, pickOps_nil, pick1_zero, pick1_succ]
          intro δf hCf
          go_wp2_with (fail)
          refine ⟨(by first | assumption | exact HCG.out _ _ hCf (by assumption) | (refine HCG.out _ _ hCf ?_; simp only [grow_grow]; exact (by repeat (first | with_reducible exact Grew.refl _ | with_reducible apply Grew.alloc | with_reducible apply Grew.grow | with_reducible apply Grew.drew | with_reducible apply Grew.drewN))) | exact HCG.out _ _ hCf (by repeat (first | with_reducible exact Grew.refl _ | with_reducible apply Grew.alloc | with_reducible apply Grew.grow | with_reducible apply Grew.drew | with_reducible apply Grew.drewN))), ?_⟩
          refine flowC_abs ?_
          intro U4 hU
          have gU4 : Grew U3 U4 := by rw [hU]; exact (by repeat (first | with_reducible exact Grew.refl _ | with_reducible apply Grew.alloc | with_reducible apply Grew.grow | with_reducible apply Grew.drew | with_reducible apply Grew.drewN))
          replace rb3 : U4.rowAt b = sp o m := by rw [Grew.rowAt gU4 _ zb3]; exact rb3
          replace fb3 : U4.rowFree b = true := by rw [Grew.rowFree gU4 _ zb3]; exact fb3
          replace zb3 : b < U4.heap.size := Nat.lt_of_lt_of_le zb3 gU4.size
          have HO4 := Lib.hid (HO2.out.grew gU4)
          have HG4 := Lib.hid (HG2.out.trans gU4)
          have K4 := Lib.hid (KeepsP.grew _ _ _ _ KU.out gU4)
          clear hU gU4 hCf HO2 HG2 KU
          refine wpFlowC_one 7 (by decide +kernel) (by kernel_rfl) (by kernel_rfl) ?_
          unfold wpFlowCS
          simp only [pickOps_cons, pickOps_nil, pick1_zero, pick1_succ]
          intro δf hCf
          go_wp2
          refine ⟨KeepsP.grew _ _ _ _ (KeepsP.setRow K4.out b _ (.inl (.inr rfl))) ⟨δf, rfl⟩, ?_⟩
          refine flowC_abs ?_
          intro U5 hU
          have ow := ownE_setRow HO4.out b nb3 (sp (o : Int) (k : Int))
          have gw := Grew.setRow_new HG4.out b (sp (o : Int) (k : Int)) HB.out
          have g5 : Grew (U4.setRow b (sp (o : Int) (k : Int))) U5 := by rw [hU]; exact (by repeat (first | with_reducible exact Grew.refl _ | with_reducible apply Grew.alloc | with_reducible apply Grew.grow | with_reducible apply Grew.drew | with_reducible apply Grew.drewN))
          have r5 : U5.rowAt b = sp (o : Int) (k : Int) := by rw [Grew.rowAt g5 _ (by rw [setRow_size]; exact zb3), rowAt_setRow_free _ _ _ fb3]
          have f5 : U5.rowFree b = true := by rw [Grew.rowFree g5 _ (by rw [setRow_size]; exact zb3), rowFree_setRow_free _ _ _ fb3]
          have z5 : b < U5.heap.size := by have := g5.size; rw [setRow_size] at this; omega
          have O5 := Lib.hid (ow.grew g5)
          have G5 := Lib.hid (gw.trans g5)
          clear ow gw g5 hU hCf rb3 fb3 zb3 HO4 HG4
          refine wpFlowC_end (by decide +kernel) (by kernel_rfl) ?_
          intro δf hCf
          go_wp2
          obtain ⟨hs, ho2, hm2, hm1, hom⟩ := HHS.out
          refine ⟨⟨acc ++ [(⟨o2, m2, true⟩ : Stp)], o, k, U5.heap.size + δf.n, rfl, by have := G5.out.size; omega, by simp, by simp [go_sem], by simp [go_sem], ?_, by omega, by omega, O5.out.grew (by repeat (first | with_reducible exact Grew.refl _ | with_reducible apply Grew.alloc | with_reducible apply Grew.grow | with_reducible apply Grew.drew | with_reducible apply Grew.drewN)), G5.out.trans (by repeat (first | with_reducible exact Grew.refl _ | with_reducible apply Grew.alloc | with_reducible apply Grew.grow | with_reducible apply Grew.drew | with_reducible apply Grew.drewN))⟩, ?_⟩
          · rw [← HAC.out, HSL.out HIK.out, List.append_assoc]; rfl
          · have h1 := OwnE.form O5.out
            have h2 := congrArg List.length HAC.out
            rw [HSL.out HIK.out, List.length_append] at h2
            obtain ⟨_, _, hv5⟩ := ownE_len HO.out
            obtain ⟨_, _, hv2⟩ := ownE_len O5.out
            rw [hv5, hv2, List.length_append]
            simp only [lenV, List.length_cons, List.length_nil] at *
            omega
      · have hi2 : ¬ ((i : Int) < (o2 : Int)) := by omega
        have hi3 : decide ((i : Int) < (o2 : Int)) = false := decide_eq_false hi2
        have HIK := Lib.hid hik
        clear hik
        go_wp2_with (go_at_call 50; refine (HH.out _).mono ?_; rintro e w' ⟨rfl, δ, rfl⟩)
        refine code_abs ?_
        intro Z hZ
        have c0 : Z.cell? ⟨b, 0, none⟩ = some (.int .i64 o) := by rw [hZ]; simp [go_sem, c0, hbs]
        have c1 : Z.cell? ⟨b, 1, none⟩ = some (.int .i64 m) := by rw [hZ]; simp [go_sem, c1, hbs]
        have g0 : Grew wr Z := by rw [hZ]; exact (by repeat (first | with_reducible exact Grew.refl _ | with_reducible apply Grew.alloc | with_reducible apply Grew.grow | with_reducible apply Grew.drew | with_reducible apply Grew.drewN))
        have hbZ : b < Z.heap.size := Nat.lt_of_lt_of_le hbs g0.size
        have G0 := Lib.hid g0
        have rbZ : Z.rowAt b = sp o m := by rw [Grew.rowAt g0 _ hbs]; exact r1
        have fbZ : Z.rowFree b = true := by rw [Grew.rowFree g0 _ hbs]; exact f1
        have HCG := Lib.hid (KeepsX.grew Z (.slice none 0 0))
        have HC0 := Lib.hid (KeepsX.refl Z (.slice none 0 0))
        clear hZ g0
        refine wp_region_flowC (KeepsX Z (.slice none 0 0)) HCG.out HC0.out (by kernel_rfl) ?_
        intro δf
        apply wpFlowC_quiets [0,1,2,3,4,5,6,7,8,9,10,11,12] HCG.out ⟨_, HC0.out⟩ (by decide +kernel) (by decide +kernel) (by kernel_rfl) (by intro _ _ _ d _ h; cases d <;> exact h) _
        · intro A hA Y hY
          ((have d0 := hY.cell c0 (by simp [Value.ownBlock]); have d1 := hY.cell c1 (by simp [Value.ownBlock]); have hbY : b < Y.heap.size := Nat.lt_of_lt_of_le hbZ hY.1))
          simp only [pickOps_cons, pickOps_nil, pick1_zero, pick1_succ]
          repeat (go_big_quiet_step ((fail)))
          exact wpQuiet_nil hA.out.symm
        refine flowC_abs ?_
        intro V hV
        have gV : Grew Z V := by rw [hV]; exact (by repeat (first | with_reducible exact Grew.refl _ | with_reducible apply Grew.alloc | with_reducible apply Grew.grow | with_reducible apply Grew.drew | with_reducible apply Grew.drewN))
        have GV := Lib.hid gV
        have zV := gV.size
        clear hV gV
        refine wpFlowC_two 13 14 (by decide +kernel) (by kernel_rfl) (by kernel_rfl) ?_ ?_
        unfold wpFlowCS
        simp only [pickOps_cons, pickOps_nil, pick1_zero, pick1_succ]
        intro δf hCf
        go_wp2_with (fail)
        refine ⟨(by first | assumption | exact HCG.out _ _ hCf (by assumption) | (refine HCG.out _ _ hCf ?_; simp only [grow_grow]; exact (by repeat (first | with_reducible exact Grew.refl _ | with_reducible apply Grew.alloc | with_reducible apply Grew.grow | with_reducible apply Grew.drew | with_reducible apply Grew.drewN))) | exact HCG.out _ _ hCf (by repeat (first | with_reducible exact Grew.refl _ | with_reducible apply Grew.alloc | with_reducible apply Grew.grow | with_reducible apply Grew.drew | with_reducible apply Grew.drewN))), ?_⟩
        refine flowC_abs ?_
        intro W1 hW
        have q1 : W1.rowAt (V.heap.size + δf.n) = sp 0 0 := by rw [hW]; simp [go_sem]
        have q2 : W1.rowFree (V.heap.size + δf.n) = true := by rw [hW]; simp [go_sem]
        have q3 : V.heap.size + δf.n < W1.heap.size := by rw [hW]; simp
        have gW1 : Grew V W1 := by rw [hW]; exact (by repeat (first | with_reducible exact Grew.refl _ | with_reducible apply Grew.alloc | with_reducible apply Grew.grow | with_reducible apply Grew.drew | with_reducible apply Grew.drewN))
        obtain ⟨b8, hb8⟩ : ∃ b8, V.heap.size + δf.n = b8 := ⟨_, rfl⟩
        have zb8 : Z.heap.size ≤ b8 := by omega
        have GW1 := Lib.hid (GV.out.trans gW1)
        rw [hb8] at q1 q2 q3 ⊢
        clear hW gW1 hb8
        refine wpFlowC_one 14 (by decide +kernel) (by kernel_rfl) (by kernel_rfl) ?_
        unfold wpFlowCS
        simp only [pickOps_cons, pickOps_nil, pick1_zero, pick1_succ]
        intro δf hCf
        go_wp2_with (fail)
        refine ⟨(by first | assumption | exact HCG.out _ _ hCf (by assumption) | (refine HCG.out _ _ hCf ?_; simp only [grow_grow]; exact (by repeat (first | with_reducible exact Grew.refl _ | with_reducible apply Grew.alloc | with_reducible apply Grew.grow | with_reducible apply Grew.drew | with_reducible apply Grew.drewN))) | exact HCG.out _ _ hCf (by repeat (first | with_reducible exact Grew.refl _ | with_reducible apply Grew.alloc | with_reducible apply Grew.grow | with_reducible apply Grew.drew | with_reducible apply Grew.drewN))), ?_⟩
        refine flowC_abs ?_
        intro W2 hW
        have g1 : Grew W1 W2 := by rw [hW]; exact (by repeat (first | with_reducible exact Grew.refl _ | with_reducible apply Grew.alloc | with_reducible apply Grew.grow | with_reducible apply Grew.drew | with_reducible apply Grew.drewN))
        have p1 : W2.rowAt (W1.heap.size + δf.n) = sp 0 0 := by rw [hW]; simp [go_sem]
        have p2 : W2.rowFree (W1.heap.size + δf.n) = true := by rw [hW]; simp [go_sem]
        have p3 : W1.heap.size + δf.n < W2.heap.size := by rw [hW]; simp
        obtain ⟨b9, hb9⟩ : ∃ b9, W1.heap.size + δf.n = b9 := ⟨_, rfl⟩
        have zb9 : Z.heap.size ≤ b9 := by omega
        have hne : b8 ≠ b9 := by omega
        rw [hb9] at p1 p2 p3 ⊢
        replace q1 : W2.rowAt b8 = sp 0 0 := by rw [Grew.rowAt g1 _ q3]; exact q1
        replace q2 : W2.rowFree b8 = true := by rw [Grew.rowFree g1 _ q3]; exact q2
        replace q3 : b8 < W2.heap.size := Nat.lt_of_lt_of_le q3 g1.size
        have GW2 := Lib.hid (GW1.out.trans g1)
        clear hW g1 hb9 GW1
        rotate_left
        unfold wpFlowCS
        simp only [pickOps_cons, pickOps_nil, pick1_zero, pick1_succ]
        intro δf hCf
        go_wp2_with (fail)
        refine ⟨(by first | assumption | exact HCG.out _ _ hCf (by assumption) | (refine HCG.out _ _ hCf ?_; simp only [grow_grow]; exact (by repeat (first | with_reducible exact Grew.refl _ | with_reducible apply Grew.alloc | with_reducible apply Grew.grow | with_reducible apply Grew.drew | with_reducible apply Grew.drewN))) | exact HCG.out _ _ hCf (by repeat (first | with_reducible exact Grew.refl _ | with_reducible apply Grew.alloc | with_reducible apply Grew.grow | with_reducible apply Grew.drew | with_reducible apply Grew.drewN))), ?_⟩
        refine flowC_abs ?_
        intro W1 hW
        have p1 : W1.rowAt (V.heap.size + δf.n) = sp 0 0 := by rw [hW]; simp [go_sem]
        have p2 : W1.rowFree (V.heap.size + δf.n) = true := by rw [hW]; simp [go_sem]
        have p3 : V.heap.size + δf.n < W1.heap.size := by rw [hW]; simp
        have gW1 : Grew V W1 := by rw [hW]; exact (by repeat (first | with_reducible exact Grew.refl _ | with_reducible apply Grew.alloc | with_reducible apply Grew.grow | with_reducible apply Grew.drew | with_reducible apply Grew.drewN))
        obtain ⟨b9, hb9⟩ : ∃ b9, V.heap.size + δf.n = b9 := ⟨_, rfl⟩
        have zb9 : Z.heap.size ≤ b9 := by omega
        have GW1 := Lib.hid (GV.out.trans gW1)
        rw [hb9] at p1 p2 p3 ⊢
        clear hW gW1 hb9
        refine wpFlowC_one 13 (by decide +kernel) (by kernel_rfl) (by kernel_rfl) ?_
        unfold wpFlowCS
        simp only [pickOps_cons, pickOps_nil, pick1_zero, pick1_succ]
        intro δf hCf
        go_wp2_with (fail)
        refine ⟨(by first | assumption | exact HCG.out _ _ hCf (by assumption) | (refine HCG.out _ _ hCf ?_; simp only [grow_grow]; exact (by repeat (first | with_reducible exact Grew.refl _ | with_reducible apply Grew.alloc | with_reducible apply Grew.grow | with_reducible apply Grew.drew | with_reducible apply Grew.drewN))) | exact HCG.out _ _ hCf (by repeat (first | with_reducible exact Grew.refl _ | with_reducible apply Grew.alloc | with_reducible apply Grew.grow | with_reducible apply Grew.drew | with_reducible apply Grew.drewN))), ?_⟩
        refine flowC_abs ?_
        intro W2 hW
        have g1 : Grew W1 W2 := by rw [hW]; exact (by repeat (first | with_reducible exact Grew.refl _ | with_reducible apply Grew.alloc | with_reducible apply Grew.grow | with_reducible apply Grew.drew | with_reducible apply Grew.drewN))
        have q1 : W2.rowAt (W1.heap.size + δf.n) = sp 0 0 := by rw [hW]; simp [go_sem]
        have q2 : W2.rowFree (W1.heap.size + δf.n) = true := by rw [hW]; simp [go_sem]
        have q3 : W1.heap.size + δf.n < W2.heap.size := by rw [hW]; simp
        obtain ⟨b8, hb8⟩ : ∃ b8, W1.heap.size + δf.n = b8 := ⟨_, rfl⟩
        have zb8 : Z.heap.size ≤ b8 := by omega
        have hne : b8 ≠ b9 := by omega
        rw [hb8] at q1 q2 q3 ⊢
        replace p1 : W2.rowAt b9 = sp 0 0 := by rw [Grew.rowAt g1 _ p3]; exact p1
        replace p2 : W2.rowFree b9 = true := by rw [Grew.rowFree g1 _ p3]; exact p2
        replace p3 : b9 < W2.heap.size := Nat.lt_of_lt_of_le p3 g1.size
        have GW2 := Lib.hid (GW1.out.trans g1)
        clear hW g1 hb8 GW1
        all_goals
          refine wpFlowC_one 15 (by decide +kernel) (by kernel_rfl) (by kernel_rfl) ?_
          unfold wpFlowCS
          simp only [pickOps_cons, pickOps_nil, pick1_zero, pick1_succ]
          intro δf hCf
          go_wp2
          have kW2 := KeepsX.setRow (KeepsX.grew _ _ _ _ HC0.out GW2.out) b8 (sp o k) zb8
          refine ⟨KeepsX.grew _ _ _ _ kW2 ⟨δf, rfl⟩, ?_⟩
          refine flowC_abs ?_
          intro W3 hW
          have e9 : W3.heap[b9]? = W2.heap[b9]? := by rw [hW, heap_grow_old _ _ _ (by rw [setRow_size]; exact p3), World.heap_setRow_ne _ _ _ _ hne]
          have gW3 : Grew Z W3 := by rw [hW]; exact (Grew.setRow_new GW2.out _ _ zb8).grow _
          have kW3 : KeepsX Z (.slice none 0 0) W3 := by rw [hW]; exact KeepsX.grew _ _ _ _ kW2 ⟨δf, rfl⟩
          replace q1 : W3.rowAt b8 = sp o k := by rw [hW]; simp [go_sem, q3, q2]
          replace q2 : W3.rowFree b8 = true := by rw [hW]; simp [go_sem, q3, q2]
          replace q3 : b8 < W3.heap.size := by rw [hW]; simp [setRow_size]; omega
          replace p1 : W3.rowAt b9 = sp 0 0 := by rw [rowAt_of_heap e9]; exact p1
          replace p2 : W3.rowFree b9 = true := by rw [rowFree_of_heap e9]; exact p2
          replace p3 : b9 < W3.heap.size := by rw [hW]; simp [setRow_size]; omega
          have GW3 := Lib.hid gW3
          have KW3 := Lib.hid kW3
          clear kW2 kW3 gW3 e9 hW hCf GW2
          refine wpFlowC_one 16 (by decide +kernel) (by kernel_rfl) (by kernel_rfl) ?_
          unfold wpFlowCS
          simp only [pickOps_cons, pickOps_nil, pick1_zero, pick1_succ]
          intro δf hCf
          go_wp2
          have kW4 := KeepsX.setRow KW3.out b9 (sp o2 m2) zb9
          refine ⟨KeepsX.grew _ _ _ _ kW4 ⟨δf, rfl⟩, ?_⟩
          refine flowC_abs ?_
          intro W4 hW
          have e8 : W4.heap[b8]? = W3.heap[b8]? := by rw [hW, heap_grow_old _ _ _ (by rw [setRow_size]; exact q3), World.heap_setRow_ne _ _ _ _ (Ne.symm hne)]
          have gW4 : Grew Z W4 := by rw [hW]; exact (Grew.setRow_new GW3.out _ _ zb9).grow _
          have kk4 : KeepsX Z (.slice none 0 0) W4 := by rw [hW]; exact KeepsX.grew _ _ _ _ kW4 ⟨δf, rfl⟩
          replace p1 : W4.rowAt b9 = sp o2 m2 := by rw [hW]; simp [go_sem, p3, p2]
          replace p2 : W4.rowFree b9 = true := by rw [hW]; simp [go_sem, p3, p2]
          replace p3 : b9 < W4.heap.size := by rw [hW]; simp [setRow_size]; omega
          replace q1 : W4.rowAt b8 = sp o k := by rw [rowAt_of_heap e8]; exact q1
          replace q2 : W4.rowFree b8 = true := by rw [rowFree_of_heap e8]; exact q2
          replace q3 : b8 < W4.heap.size := by rw [hW]; simp [setRow_size]; omega
          have GW4 := Lib.hid gW4
          have KW4 := Lib.hid kk4
          clear kW4 kk4 gW4 e8 hW hCf GW3 KW3
          have nbo : (Value.slice none 0 0).ownBlock ≠ some b := by simp [Value.ownBlock]
          have rb4 : W4.rowAt b = sp o m := by rw [KeepsX.rowAt KW4.out hbZ nbo]; exact rbZ
          have fb4 : W4.rowFree b = true := by rw [KeepsX.rowFree KW4.out hbZ nbo]; exact fbZ
          have zb4 : b < W4.heap.size := Nat.lt_of_lt_of_le hbZ KW4.out.1
          have OV4 := Lib.hid ((HO.out.grew G0.out).grew GW4.out)
          have ne8 := Lib.hid (show b8 ≠ b by omega)
          have ne9 := Lib.hid (show b9 ≠ b by omega)
          clear rbZ fbZ hbZ nbo r1 f1 hbs zV
          refine wpFlowC_end (by decide +kernel) (by kernel_rfl) ?_
          intro δf hCf
          refine exit_abs ?_
          intro V hV
          have gV4 : Grew W4 V := by rw [hV]; exact (by repeat (first | with_reducible exact Grew.refl _ | with_reducible apply Grew.alloc | with_reducible apply Grew.grow | with_reducible apply Grew.drew | with_reducible apply Grew.drewN))
          replace p1 : V.rowAt b9 = sp o2 m2 := by rw [Grew.rowAt gV4 _ p3]; exact p1
          replace p2 : V.rowFree b9 = true := by rw [Grew.rowFree gV4 _ p3]; exact p2
          replace p3 : b9 < V.heap.size := Nat.lt_of_lt_of_le p3 gV4.size
          replace q1 : V.rowAt b8 = sp o k := by rw [Grew.rowAt gV4 _ q3]; exact q1
          replace q2 : V.rowFree b8 = true := by rw [Grew.rowFree gV4 _ q3]; exact q2
          replace q3 : b8 < V.heap.size := Nat.lt_of_lt_of_le q3 gV4.size
          have rb : V.rowAt b = sp o m := by rw [Grew.rowAt gV4 _ zb4]; exact rb4
          have fb : V.rowFree b = true := by rw [Grew.rowFree gV4 _ zb4]; exact fb4
          have zb : b < V.heap.size := Nat.lt_of_lt_of_le zb4 gV4.size
          have cp : V.cell? ⟨b9, 0, none⟩ = some (.int .i64 o2) := by rw [cell_rowAt, p1]; rfl
          have OV := Lib.hid (OV4.out.grew gV4)
          have GV := Lib.hid ((HG.out.trans (G0.out.trans GW4.out)).trans gV4)
          have n8 := ownE_other OV.out b8 q1
          have n9 := ownE_other OV.out b9 p1
          have nb := ownE_other OV.out b rb
          have m8 : ¬ (u5.ownBlock = some b8 ∨ b8 = b) := fun h => h.elim n8 (ne8.out)
          have m9 : ¬ (u5.ownBlock = some b9 ∨ b9 = b) := fun h => h.elim n9 (ne9.out)
          clear ne8 ne9
          clear gV4 hV c0 c1 hCf rb4 fb4 zb4 HCG HC0 hne GW4 KW4 OV4
          go_wp2
          have HCG := Lib.hid (KeepsP.grew V (fun x => u5.ownBlock = some x ∨ x = b))
          have HC0 := Lib.hid (KeepsP.refl V (fun x => u5.ownBlock = some x ∨ x = b))
          refine wp_region_flowC (KeepsP V (fun x => u5.ownBlock = some x ∨ x = b)) HCG.out HC0.out (by kernel_rfl) ?_
          intro δf
          apply wpFlowC_quiets [0,1,2,5] HCG.out ⟨_, HC0.out⟩ (by decide +kernel) (by decide +kernel) (by kernel_rfl) (by intro _ _ _ d _ h; cases d <;> exact h) _
          · intro A hA Y hY
            (have d8 := KeepsP.rowAt hY q3 m8; have d9 := KeepsP.rowAt hY p3 m9; have l8 := Nat.lt_of_lt_of_le q3 hY.1; have l9 := Nat.lt_of_lt_of_le p3 hY.1; rw [q1] at d8; rw [p1] at d9)
            simp only [pickOps_cons, pickOps_nil, pick1_zero, pick1_succ]
            repeat (go_big_quiet_step ((fail)))
            exact wpQuiet_nil hA.out.symm
          refine flowC_abs ?_
          intro U hU
          have gU : Grew V U := by rw [hU]; exact (by repeat (first | with_reducible exact Grew.refl _ | with_reducible apply Grew.alloc | with_reducible apply Grew.grow | with_reducible apply Grew.drew | with_reducible apply Grew.drewN))
          have GU := Lib.hid gU
          clear hU gU
          refine wpFlowC_one 3 (by decide +kernel) (by kernel_rfl) (by kernel_rfl) ?_
          unfold wpFlowCS
          simp only [pickOps_cons, pickOps_nil, pick1_zero, pick1_succ]
          intro δf hCf
          go_wp2_with (fail)
          refine ⟨(by first | assumption | exact HCG.out _ _ hCf (by assumption) | (refine HCG.out _ _ hCf ?_; simp only [grow_grow]; exact (by repeat (first | with_reducible exact Grew.refl _ | with_reducible apply Grew.alloc | with_reducible apply Grew.grow | with_reducible apply Grew.drew | with_reducible apply Grew.drewN))) | exact HCG.out _ _ hCf (by repeat (first | with_reducible exact Grew.refl _ | with_reducible apply Grew.alloc | with_reducible apply Grew.grow | with_reducible apply Grew.drew | with_reducible apply Grew.drewN))), ?_⟩
          refine flowC_abs ?_
          intro U2 hU
          have gU2 : Grew U U2 := by rw [hU]; exact (by repeat (first | with_reducible exact Grew.refl _ | with_reducible apply Grew.alloc | with_reducible apply Grew.grow | with_reducible apply Grew.drew | with_reducible apply Grew.drewN))
          have sh : ShowsE 3 Stp.cs U2 (.slice (some ⟨U.heap.size + δf.n, 0, none⟩) 1 1) [(⟨o, k, false⟩ : Stp)] := by rw [hU]; exact showsE_one_g Stp.cs_len U δf (⟨o, k, false⟩ : Stp) _ _ (Nat.le_refl _)
          have SH := Lib.hid sh
          have GU2 := Lib.hid (GU.out.trans gU2)
          obtain ⟨b3, hb3⟩ : ∃ b3, U.heap.size + δf.n = b3 := ⟨_, rfl⟩
          rw [hb3] at SH ⊢
          clear hU sh gU2 hb3 GU hCf
          refine wpFlowC_one 4 (by decide +kernel) (by kernel_rfl) (by kernel_rfl) ?_
          unfold wpFlowCS
          simp only [pickOps_cons, pickOps_nil, pick1_zero, pick1_succ]
          intro δf hCf
          refine wpList_appendE Stp.cs_len (by decide) rfl _ _ _ rfl _ ii _ 24 under_steps hif hz hsz hby rfl Stp.cs_one w _ w.heap.size _ _ rfl rfl acc [(⟨o, k, false⟩ : Stp)] ((GV.out.trans GU2.out).grow _) (Nat.le_refl _) (by have := (GV.out.trans GU2.out).size; simp; omega) (by exact (OV.out.grew GU2.out).grew (by repeat (first | with_reducible exact Grew.refl _ | with_reducible apply Grew.alloc | with_reducible apply Grew.grow | with_reducible apply Grew.drew | with_reducible apply Grew.drewN))) (by exact SH.out.grew (by repeat (first | with_reducible exact Grew.refl _ | with_reducible apply Grew.alloc | with_reducible apply Grew.grow | with_reducible apply Grew.drew | with_reducible apply Grew.drewN))) (by have := HAL.out; simp [maxLen]; omega) (by have := HAL.out; simp; omega) (by simp) ?_
          intro v2 U3 ho2 hg2 hgb
          have kU3 := KeepsP.grown hCf hgb (fun k e => .inl (.inl e))
          refine wpList_nil_then ?_
          refine ⟨kU3, ?_⟩
          have rb3 : U3.rowAt b = sp o m := by rw [rowAt_of_heap (hgb.block b (Nat.lt_of_lt_of_le zb (GU2.out.grow δf).size) (fun e => nb e.symm)), Grew.rowAt (GU2.out.grow δf) _ zb]; exact rb
          have fb3 : U3.rowFree b = true := by rw [rowFree_of_heap (hgb.block b (Nat.lt_of_lt_of_le zb (GU2.out.grow δf).size) (fun e => nb e.symm)), Grew.rowFree (GU2.out.grow δf) _ zb]; exact fb
          have zb3 : b < U3.heap.size := Nat.lt_of_lt_of_le zb kU3.1
          have HO2 := Lib.hid ho2
          have HG2 := Lib.hid hg2
          have KU := Lib.hid kU3
          have nb3 := ownE_other ho2 b rb3
          clear ho2 hg2 hgb kU3 hCf SH GU2 rb fb zb
          refine wpFlowC_one 6 (by decide +kernel) (by kernel_rfl) (by kernel_rfl) ?_
          unfold wpFlowCS
          simp only [pickOps_cons, pickOps_nil, pick1_zero, pick1_succ]
          intro δf hCf
          go_wp2_with (fail)
          refine ⟨(by first | assumption | exact HCG.out _ _ hCf (by assumption) | (refine HCG.out _ _ hCf ?_; simp only [grow_grow]; exact (by repeat (first | with_reducible exact Grew.refl _ | with_reducible apply Grew.alloc | with_reducible apply Grew.grow | with_reducible apply Grew.drew | with_reducible apply Grew.drewN))) | exact HCG.out _ _ hCf (by repeat (first | with_reducible exact Grew.refl _ | with_reducible apply Grew.alloc | with_reducible apply Grew.grow | with_reducible apply Grew.drew | with_reducible apply Grew.drewN))), ?_⟩
          refine flowC_abs ?_
          intro U4 hU
          have gU4 : Grew U3 U4 := by rw [hU]; exact (by repeat (first | with_reducible exact Grew.refl _ | with_reducible apply Grew.alloc | with_reducible apply Grew.grow | with_reducible apply Grew.drew | with_reducible apply Grew.drewN))
          replace rb3 : U4.rowAt b = sp o m := by rw [Grew.rowAt gU4 _ zb3]; exact rb3
          replace fb3 : U4.rowFree b = true := by rw [Grew.rowFree gU4 _ zb3]; exact fb3
          replace zb3 : b < U4.heap.size := Nat.lt_of_lt_of_le zb3 gU4.size
          have HO4 := Lib.hid (HO2.out.grew gU4)
          have HG4 := Lib.hid (HG2.out.trans gU4)
          have K4 := Lib.hid (KeepsP.grew _ _ _ _ KU.out gU4)
          clear hU gU4 hCf HO2 HG2 KU
          refine wpFlowC_one 7 (by decide +kernel) (by kernel_rfl) (by kernel_rfl) ?_
          unfold wpFlowCS
          simp only [pickOps_cons, pickOps_nil, pick1_zero, pick1_succ]
          intro δf hCf
          go_wp2
          refine ⟨KeepsP.grew _ _ _ _ (KeepsP.setRow K4.out b _ (.inl (.inr rfl))) ⟨δf, rfl⟩, ?_⟩
          refine flowC_abs ?_
          intro U5 hU
          have ow := ownE_setRow HO4.out b nb3 (sp (o2 : Int) (m2 : Int))
          have gw := Grew.setRow_new HG4.out b (sp (o2 : Int) (m2 : Int)) HB.out
          have g5 : Grew (U4.setRow b (sp (o2 : Int) (m2 : Int))) U5 := by rw [hU]; exact (by repeat (first | with_reducible exact Grew.refl _ | with_reducible apply Grew.alloc | with_reducible apply Grew.grow | with_reducible apply Grew.drew | with_reducible apply Grew.drewN))
          have r5 : U5.rowAt b = sp (o2 : Int) (m2 : Int) := by rw [Grew.rowAt g5 _ (by rw [setRow_size]; exact zb3), rowAt_setRow_free _ _ _ fb3]
          have f5 : U5.rowFree b = true := by rw [Grew.rowFree g5 _ (by rw [setRow_size]; exact zb3), rowFree_setRow_free _ _ _ fb3]
          have z5 : b < U5.heap.size := by have := g5.size; rw [setRow_size] at this; omega
          have O5 := Lib.hid (ow.grew g5)
          have G5 := Lib.hid (gw.trans g5)
          clear ow gw g5 hU hCf rb3 fb3 zb3 HO4 HG4
          refine wpFlowC_end (by decide +kernel) (by kernel_rfl) ?_
          intro δf hCf
          go_wp2
          obtain ⟨hs, ho2, hm2, hm1, hom⟩ := HHS.out
          refine ⟨⟨acc ++ [(⟨o, k, false⟩ : Stp)], o2, m2, U5.heap.size + δf.n, rfl, by have := G5.out.size; omega, by simp, by simp [go_sem], by simp [go_sem], ?_, by omega, by omega, O5.out.grew (by repeat (first | with_reducible exact Grew.refl _ | with_reducible apply Grew.alloc | with_reducible apply Grew.grow | with_reducible apply Grew.drew | with_reducible apply Grew.drewN)), G5.out.trans (by repeat (first | with_reducible exact Grew.refl _ | with_reducible apply Grew.alloc | with_reducible apply Grew.grow | with_reducible apply Grew.drew | with_reducible apply Grew.drewN))⟩, ?_⟩
          · rw [← HAC.out, HSR.out HIK.out, List.append_assoc]; rfl
          · have h1 := OwnE.form O5.out
            have h2 := congrArg List.length HAC.out
            rw [HSR.out HIK.out, List.length_append] at h2
            obtain ⟨_, _, hv5⟩ := ownE_len HO.out
            obtain ⟨_, _, hv2⟩ := ownE_len O5.out
            rw [hv5, hv2, List.length_append]
            simp only [lenV, List.length_cons, List.length_nil] at *
            omega
    · have hgt : ¬ ((1 : Int) < (m : Int)) := by omega
      rw [stpF_one m o m i (by omega), List.append_nil] at hacc
      have HAC := Lib.hid hacc
      clear hacc hm hm1 hom
      go_wp2_with (go_at_call 51; refine (reverseS_w acc _ w _ (by rw [HAC.out]; exact hlen2) (HG.out.trans (by repeat (first | with_reducible exact Grew.refl _ | with_reducible apply Grew.alloc | with_reducible apply Grew.grow | with_reducible apply Grew.drew | with_reducible apply Grew.drewN))) (HO.out.grew (by repeat (first | with_reducible exact Grew.refl _ | with_reducible apply Grew.alloc | with_reducible apply Grew.grow | with_reducible apply Grew.drew | with_reducible apply Grew.drewN)))).mono ?_; rintro e w' ⟨⟨u, rfl⟩, ho, hg⟩)
      have HO2 := Lib.hid ho
      have HG2 := Lib.hid hg
      clear ho hg
      go_wp2
      go_ret
      exact ⟨_, rfl, by rw [← HAC.out]; exact HO2.out, HG2.out⟩
end Go.Proofs.Ytnhcamklammcdaa
/- mmr.Same, the law's Peaks and leaves. -/
namespace Go.Proofs.Ytnhcamklammcdaa
set_option linter.unusedVariables false
set_option linter.unusedSimpArgs false
open Go.RowKit
set_option maxRecDepth 100000
theorem same_w (ls ms : List Tot) (v u : Value) (w : World) (hv : ShowsT w v ls) (hu : ShowsT w u ms) (hl : ls.length ≤ 1099511627776) (hm : ms.length ≤ 1099511627776) :
    Calls Try.prog 17 #[v, u] w fun e w' => e = .returned (.bool (sameT ls ms)) ∧ Grew w w' := by
  obtain ⟨p, c, rfl⟩ := showsT_form hv
  obtain ⟨p2, c2, rfl⟩ := showsT_form hu
  have HC := Lib.hid (fun W (g : Grew w W) => equalT_w ls ms _ _ W (hv.grew g) (hu.grew g) hl hm)
  clear hv hu hl hm
  go_enter Try.func17, Try.ntmps17
  go_wp2_with (go_at_call 37; refine (HC.out _ (by repeat (first | with_reducible exact Grew.refl _ | with_reducible apply Grew.alloc | with_reducible apply Grew.grow | with_reducible apply Grew.drew | with_reducible apply Grew.drewN))).mono ?_; rintro e w' ⟨rfl, δ, rfl⟩)
  go_ret
  exact ⟨rfl, (by repeat (first | with_reducible exact Grew.refl _ | with_reducible apply Grew.alloc | with_reducible apply Grew.grow | with_reducible apply Grew.drew | with_reducible apply Grew.drewN))⟩
theorem mergeF_len : ∀ (f : Nat) (l : List Tot), (mergeF f l).length ≤ l.length
  | 0, l => Nat.le_refl _
  | f + 1, [] => by simp [mergeF]
  | f + 1, [x] => by simp [mergeF]
  | f + 1, x :: y :: r => by
    unfold mergeF
    split
    · have := mergeF_len f (Tot.join y x :: r); simp only [List.length_cons] at *; omega
    · exact Nat.le_refl _
theorem appT_len (p : List Tot) (x : Tot) : (appT p x).length ≤ p.length + 1 := by
  unfold appT mergeR
  rw [List.length_reverse]
  refine Nat.le_trans (mergeF_len _ _) ?_
  simp
/-- What comes of leaves, appended one by one. -/
noncomputable def peaksL (ls : List Tot) : List Tot := ls.foldl appT []
theorem peaksL_snoc (ls : List Tot) (x : Tot) : peaksL (ls ++ [x]) = appT (peaksL ls) x := by simp [peaksL]
theorem peaksL_len : ∀ n (ls : List Tot), ls.length = n → (peaksL ls).length ≤ n
  | 0, ls, h => by
    obtain rfl : ls = [] := List.length_eq_zero_iff.1 h
    simp [peaksL]
  | n + 1, ls, h => by
    obtain ⟨m, x, rfl⟩ : ∃ m x, ls = m ++ [x] := ⟨ls.dropLast, ls.getLast (by intro h0; rw [h0] at h; simp at h), (List.dropLast_concat_getLast _).symm⟩
    rw [peaksL_snoc]
    have h1 := appT_len (peaksL m) x
    have h2 := peaksL_len n m (by simpa using h)
    omega
theorem peaksL_take (ls : List Tot) (k : Nat) (x : Tot) (hx : ls[k]? = some x) : peaksL (ls.take (k + 1)) = appT (peaksL (ls.take k)) x := by
  rw [List.take_add_one, hx, ← peaksL_snoc]; rfl
set_option maxHeartbeats 3200000 in
theorem peaks_w (ls : List Tot) (v : Value) (w : World) (hv : ShowsT w v ls) (hl : ls.length ≤ 900) :
    Calls Try.prog 26 #[v] w fun e w' => ∃ v', e = .returned v' ∧ OwnT w' w.heap.size 29 v' (peaksL ls) ∧ Grew w w' := by
  obtain ⟨p, c, rfl⟩ := showsT_form hv
  have HV := Lib.hid hv
  clear hv
  obtain ⟨N, hN⟩ : ∃ N, ls.length = N := ⟨_, rfl⟩
  have HN := Lib.hid hN
  rw [hN] at HV hl ⊢
  clear hN
  have hNI : (N : Int) ≤ 900 := by omega
  go_enter Try.func26, Try.ntmps26
  go_wp2
  go_loopw [4, 3] (fun n v wr => ∃ k : Nat, k ≤ N ∧ n = .int .i64 k ∧ OwnT wr w.heap.size 29 v (peaksL (ls.take k)) ∧ Grew w wr) (fun n _ _ => N - (intOf n).toNat)
  case atStart => exact ⟨0, by omega, rfl, OwnE.nil _ _ _, Grew.refl _⟩
  case round =>
    obtain ⟨k, hk, rfl, ho, hg⟩ := hrel
    have HO := Lib.hid ho
    have HG := Lib.hid hg
    clear ho hg
    by_cases hn : k < N
    · have hlt : (k : Int) < (N : Int) := by omega
      obtain ⟨x, hx⟩ : ∃ x, ls[k]? = some x := ⟨_, List.getElem?_eq_getElem (by rw [HN.out]; exact hn)⟩
      have hvv := HV.out
      rw [← HN.out] at hvv
      obtain ⟨b, o, rfl, _, hcc, hb, hat⟩ := showsT_some hvv (by rw [HN.out]; omega)
      have hld := load_totm (rangeAt_grew (hat k x hx) HG.out)
      unfold Tot.v at hld
      have hpt := peaksL_take ls k x hx
      have HPT := Lib.hid hpt
      have hpl := peaksL_len _ (ls.take k) rfl
      have HPL := Lib.hid (show (peaksL (ls.take k)).length ≤ 1000 by rw [List.length_take] at hpl; omega)
      have hxl := x.h.len
      clear hx hvv hcc hb hat hpt hpl hn
      go_wp2_with (go_at_call 11; refine (append_w (peaksL (ls.take k)) x _ _ (OwnE.shows Tot.cs_len HO.out) HPL.out).mono ?_; rintro e w' ⟨v2, rfl, ho2, hg2⟩; have HO2 := Lib.hid (ho2.base HG.out.size); have HG2 := Lib.hid (HG.out.trans hg2); clear ho2 hg2)
      exact ⟨⟨k + 1, by omega, by go_num, by rw [HPT.out]; exact HO2.out, HG2.out⟩, by simp only [intOf]; omega⟩
    · obtain rfl : k = N := by omega
      have hge : ¬ ((k : Int) < (k : Int)) := by omega
      have hall : ls.take k = ls := List.take_of_length_le (by rw [HN.out]; exact Nat.le_refl _)
      rw [hall] at HO
      clear hk hn hall
      go_wp2
      go_ret
      exact ⟨_, rfl, HO.out, HG.out⟩
/-- The leaves of ids, and work. -/
noncomputable def leafAt (ids : List Idb) (work : List Nat) (k : Nat) : Tot := Tot.leaf (ids.getD k Idb.zero) (Wd.of (work.getD k 1))
noncomputable def leavesT (ids : List Idb) (work : List Nat) (k : Nat) : List Tot := (List.range k).map (leafAt ids work)
theorem leavesT_succ (ids : List Idb) (work : List Nat) (k : Nat) : leavesT ids work (k + 1) = leavesT ids work k ++ [leafAt ids work k] := by simp [leavesT, List.range_succ]
theorem leavesT_len (ids : List Idb) (work : List Nat) (k : Nat) : (leavesT ids work k).length = k := by simp [leavesT]
set_option maxHeartbeats 3200000 in
theorem leaves_w (ids : List Idb) (work : List Nat) (v u : Value) (w : World) (hv : ShowsI w v ids) (hu : Shows w u (nvs work)) (hl : ids.length ≤ 900) (hwk : ∀ x ∈ work, x < 4294967296) :
    Calls Try.prog 25 #[v, u] w fun e w' => ∃ v', e = .returned v' ∧ OwnT w' w.heap.size 29 v' (leavesT ids work ids.length) ∧ Grew w w' := by
  obtain ⟨ii, hif, hz, hsz, hby⟩ := info_t
  obtain ⟨p, c, rfl⟩ := showsI_form hv
  obtain ⟨p2, c2, rfl⟩ := shows_form hu
  have HV := Lib.hid hv
  have HU := Lib.hid hu
  have HW := Lib.hid hwk
  clear hv hu hwk
  obtain ⟨N, hN⟩ : ∃ N, ids.length = N := ⟨_, rfl⟩
  have HN := Lib.hid hN
  obtain ⟨M, hM⟩ : ∃ M, (nvs work).length = M := ⟨_, rfl⟩
  have HM := Lib.hid (hM.symm.trans (nvs_len work))
  rw [hN] at HV hl ⊢
  rw [hM] at HU ⊢
  clear hN hM
  have hNI : (N : Int) ≤ 900 := by omega
  go_enter Try.func25, Try.ntmps25
  go_wp2
  go_loopw [6, 5] (fun n v wr => ∃ k : Nat, k ≤ N ∧ n = .int .i64 k ∧ OwnT wr w.heap.size 29 v (leavesT ids work k) ∧ Grew w wr) (fun n _ _ => N - (intOf n).toNat)
  case atStart => exact ⟨0, by omega, rfl, OwnE.nil _ _ _, Grew.refl _⟩
  case round =>
    obtain ⟨k, hk, rfl, ho, hg⟩ := hrel
    have HO := Lib.hid ho
    have HG := Lib.hid hg
    clear ho hg
    by_cases hn : k < N
    · have hlt : (k : Int) < (N : Int) := by omega
      obtain ⟨x, hx⟩ : ∃ x, ids[k]? = some x := ⟨_, List.getElem?_eq_getElem (by rw [HN.out]; exact hn)⟩
      have hvv := HV.out
      rw [← HN.out] at hvv
      obtain ⟨b, o, rfl, _, hcc, hb, hat⟩ := showsI_some hvv (by rw [HN.out]; omega)
      have hr := World.rangeAt.grew (hat k x hx) HG.out
      have HR := Lib.hid hr
      have hbw : b < wr.heap.size := Nat.lt_of_lt_of_le hb HG.out.size
      have hxl := x.len
      have hla : ∀ y : Nat, work.getD k 1 = y → leafAt ids work k = Tot.leaf x (Wd.of y) := fun y hy => by
        unfold leafAt
        rw [hy, show ids.getD k Idb.zero = x by simp [List.getD, hx]]
      have HLA := Lib.hid hla
      have HK := Lib.hid hn
      clear hx hvv hcc hb hat hn hla hr
      by_cases hm : k < M
      · have hmt : (k : Int) < (M : Int) := by omega
        obtain ⟨y, hy⟩ : ∃ y, work[k]? = some y := ⟨_, List.getElem?_eq_getElem (by rw [← HM.out]; exact hm)⟩
        have hyl := HW.out y (List.mem_of_getElem? hy)
        have hla2 := HLA.out y (by simp [List.getD, hy])
        have hu2 := HU.out
        rcases hu2 with ⟨ub, uo, uc, he, hub, hucell⟩ | ⟨_, _, he, hnil⟩
        case inr => simp only [Value.slice.injEq] at he; omega
        simp only [Value.slice.injEq] at he
        obtain ⟨rfl, -, rfl⟩ := he
        have huc := HG.out.cell (hucell k (.int .u32 y) (by unfold nvs; rw [List.getElem?_map, hy]; rfl))
        have hubw : ub < wr.heap.size := Nat.lt_of_lt_of_le hub HG.out.size
        have HLA2 := Lib.hid hla2
        have hcv : IntKind.u64.wrap (y : Int) = (y : Int) := by rw [IntKind.wrap_u64]; omega
        have hof := fun W => of_wd y (by omega) W
        have HOF := Lib.hid hof
        clear hy hyl hla2 hucell hub hof hm
        have hlf := fun W => leaf_w x (Wd.of y) W
        have HLF := Lib.hid hlf
        have htl := (Tot.leaf x (Wd.of y)).h.len
        obtain ⟨R, hR⟩ : ∃ R, Tot.leaf x (Wd.of y) = R := ⟨_, rfl⟩
        rw [hR] at HLF HLA2 htl
        unfold Tot.v at HLF
        clear hR hlf
        go_wp2
        refine wp_region_flowX [10,11] (by kernel_rfl) ?_
        intro δf
        refine flowX_abs ?_
        intro Y hY
        have gY : Grew wr Y := by rw [hY]; exact (by repeat (first | with_reducible exact Grew.refl _ | with_reducible apply Grew.alloc | with_reducible apply Grew.grow | with_reducible apply Grew.drew | with_reducible apply Grew.drewN))
        have ql : ∀ δ, (rowLoad 24 (.pointer (some ⟨b, o + k * 32, none⟩))).run Try.prog (Y.grow δ) = .ok (.value (.agg (iv x.l))) (Y.grow δ) := fun δ => load_idm (World.rangeAt.grew (World.rangeAt.grew HR.out gY) ⟨δ, rfl⟩)
        have GY := Lib.hid gY
        clear hY gY
        apply wpFlowX_quiets [0,1,2,3,4,5,6] (by decide +kernel) (by decide +kernel) (by kernel_rfl) (by intro _ _ _ d _ h; cases d <;> exact h) _
        · intro A hA δ'
          simp only [pickOps_cons, pickOps_nil, pick1_zero, pick1_succ]
          repeat (go_big_quiet_step ((fail)))
          exact wpQuiet_nil hA.out.symm
        apply wpFlowX_quiets [7] (by decide +kernel) (by decide +kernel) (by kernel_rfl) (by intro _ _ _ d _ h; cases d <;> exact h) _
        · intro A hA δ'
          simp only [pickOps_cons, pickOps_nil, pick1_zero, pick1_succ]
          repeat (go_big_quiet_step ((go_at_call 27; (with_reducible first | exact Calls.pure_of_g3 (HOF.out _) | exact Calls.pure_of_g4 (HOF.out _) | exact Calls.pure_of_g (HOF.out _) | exact Calls.pure_of_g5 (HOF.out _)))))
          exact wpQuiet_nil hA.out.symm
        apply wpFlowX_quiets [8] (by decide +kernel) (by decide +kernel) (by kernel_rfl) (by intro _ _ _ d _ h; cases d <;> exact h) _
        · intro A hA δ'
          simp only [pickOps_cons, pickOps_nil, pick1_zero, pick1_succ]
          repeat (go_big_quiet_step ((go_at_call 22; (with_reducible first | exact Calls.pure_of_g3 (HLF.out _) | exact Calls.pure_of_g4 (HLF.out _) | exact Calls.pure_of_g (HLF.out _) | exact Calls.pure_of_g5 (HLF.out _)))))
          exact wpQuiet_nil hA.out.symm
        refine wpFlowX_one 9 (by decide +kernel) (by kernel_rfl) (by decide +kernel) (by decide +kernel) ?_
        simp only [pickOps_cons, pickOps_nil, pick1_zero, pick1_succ]
        intro δf
        go_wp2_with (fail)
        refine ⟨(by first | assumption | (simp only [grow_grow, Array.append_assoc]; assumption) | exact Grew.refl _ | (simp only [grow_grow, Array.append_assoc]; exact (by repeat (first | with_reducible exact Grew.refl _ | with_reducible apply Grew.alloc | with_reducible apply Grew.grow | with_reducible apply Grew.drew | with_reducible apply Grew.drewN))) | exact (by repeat (first | with_reducible exact Grew.refl _ | with_reducible apply Grew.alloc | with_reducible apply Grew.grow | with_reducible apply Grew.drew | with_reducible apply Grew.drewN))), ?_⟩
        refine flowX_abs ?_
        intro W hW
        have gW : Grew Y W := by rw [hW]; exact (by repeat (first | with_reducible exact Grew.refl _ | with_reducible apply Grew.alloc | with_reducible apply Grew.grow | with_reducible apply Grew.drew | with_reducible apply Grew.drewN))
        have sh : ShowsT W (.slice (some ⟨Y.heap.size + δf.n, 0, none⟩) 1 1) [R] := by rw [hW]; exact showsE_one_g Tot.cs_len Y δf R _ _ (Nat.le_refl _)
        have GW := Lib.hid (GY.out.trans gW)
        have SH := Lib.hid sh
        obtain ⟨b3, hb3⟩ : ∃ b3, Y.heap.size + δf.n = b3 := ⟨_, rfl⟩
        rw [hb3] at SH ⊢
        have hlen := leavesT_len ids work k
        clear hW gW sh hb3 GY ql
        refine wpFlowX_esc 10 (by decide +kernel) (by kernel_rfl) (by decide +kernel) (by decide +kernel) ?_
        simp only [pickOps_cons, pickOps_nil, pick1_zero, pick1_succ]
        intro δf
        refine wpList_appendE2 Tot.cs_len (by decide) rfl _ _ _ rfl _ ii _ 72 under_ts hif hz hsz hby tot0_cells Tot.cs_one w _ w.heap.size _ _ rfl rfl (leavesT ids work k) [R] ((HG.out.trans GW.out).grow _) (Nat.le_refl _) (by have := (HG.out.trans GW.out).size; simp; omega) (by exact (HO.out.grew GW.out).grew (by repeat (first | with_reducible exact Grew.refl _ | with_reducible apply Grew.alloc | with_reducible apply Grew.grow | with_reducible apply Grew.drew | with_reducible apply Grew.drewN))) (by exact SH.out.grew (by repeat (first | with_reducible exact Grew.refl _ | with_reducible apply Grew.alloc | with_reducible apply Grew.grow | with_reducible apply Grew.drew | with_reducible apply Grew.drewN))) (by rw [hlen]; simp [maxLen]; omega) (by rw [hlen]; simp; omega) ?_
        intro v2 W2 ho2 hg2
        rw [← HLA2.out, ← leavesT_succ] at ho2
        have HO2 := Lib.hid ho2
        have HG2 := Lib.hid hg2
        clear ho2 hg2 GW SH hlen
        refine wpList_nil_then ?_
        refine wpAny_one 11 (by decide +kernel) (by kernel_rfl) (by decide +kernel) ?_
        simp only [pickOps_cons, pickOps_nil, pick1_zero, pick1_succ]
        go_wp2_with (fail)
        refine wpAny_end (by decide +kernel) (by kernel_rfl) ?_
        go_wp2
        exact ⟨⟨k + 1, by have := HK.out; omega, by go_num, HO2.out, HG2.out⟩, by have := HK.out; simp only [intOf]; omega⟩
      · have hmt : ¬ ((k : Int) < (M : Int)) := by omega
        have hla2 := HLA.out 1 (by rw [List.getD, List.getElem?_eq_none (by rw [← HM.out]; omega)]; rfl)
        have HLA2 := Lib.hid hla2
        have hof : ∀ W, Calls Try.prog 27 #[.int .u64 1] W fun e w' => e = .returned (.agg (wv (Wd.of 1).n)) ∧ Grew W w' := fun W => of_wd 1 (by omega) W
        have HOF := Lib.hid hof
        clear hla2 hof hm
        have hlf := fun W => leaf_w x (Wd.of 1) W
        have HLF := Lib.hid hlf
        have htl := (Tot.leaf x (Wd.of 1)).h.len
        obtain ⟨R, hR⟩ : ∃ R, Tot.leaf x (Wd.of 1) = R := ⟨_, rfl⟩
        rw [hR] at HLF HLA2 htl
        unfold Tot.v at HLF
        clear hR hlf
        go_wp2
        refine wp_region_flowX [10,11] (by kernel_rfl) ?_
        intro δf
        refine flowX_abs ?_
        intro Y hY
        have gY : Grew wr Y := by rw [hY]; exact (by repeat (first | with_reducible exact Grew.refl _ | with_reducible apply Grew.alloc | with_reducible apply Grew.grow | with_reducible apply Grew.drew | with_reducible apply Grew.drewN))
        have ql : ∀ δ, (rowLoad 24 (.pointer (some ⟨b, o + k * 32, none⟩))).run Try.prog (Y.grow δ) = .ok (.value (.agg (iv x.l))) (Y.grow δ) := fun δ => load_idm (World.rangeAt.grew (World.rangeAt.grew HR.out gY) ⟨δ, rfl⟩)
        have GY := Lib.hid gY
        clear hY gY
        apply wpFlowX_quiets [0,1,2,3,4,5,6] (by decide +kernel) (by decide +kernel) (by kernel_rfl) (by intro _ _ _ d _ h; cases d <;> exact h) _
        · intro A hA δ'
          simp only [pickOps_cons, pickOps_nil, pick1_zero, pick1_succ]
          repeat (go_big_quiet_step ((fail)))
          exact wpQuiet_nil hA.out.symm
        apply wpFlowX_quiets [7] (by decide +kernel) (by decide +kernel) (by kernel_rfl) (by intro _ _ _ d _ h; cases d <;> exact h) _
        · intro A hA δ'
          simp only [pickOps_cons, pickOps_nil, pick1_zero, pick1_succ]
          repeat (go_big_quiet_step ((go_at_call 27; (with_reducible first | exact Calls.pure_of_g3 (HOF.out _) | exact Calls.pure_of_g4 (HOF.out _) | exact Calls.pure_of_g (HOF.out _) | exact Calls.pure_of_g5 (HOF.out _)))))
          exact wpQuiet_nil hA.out.symm
        apply wpFlowX_quiets [8] (by decide +kernel) (by decide +kernel) (by kernel_rfl) (by intro _ _ _ d _ h; cases d <;> exact h) _
        · intro A hA δ'
          simp only [pickOps_cons, pickOps_nil, pick1_zero, pick1_succ]
          repeat (go_big_quiet_step ((go_at_call 22; (with_reducible first | exact Calls.pure_of_g3 (HLF.out _) | exact Calls.pure_of_g4 (HLF.out _) | exact Calls.pure_of_g (HLF.out _) | exact Calls.pure_of_g5 (HLF.out _)))))
          exact wpQuiet_nil hA.out.symm
        refine wpFlowX_one 9 (by decide +kernel) (by kernel_rfl) (by decide +kernel) (by decide +kernel) ?_
        simp only [pickOps_cons, pickOps_nil, pick1_zero, pick1_succ]
        intro δf
        go_wp2_with (fail)
        refine ⟨(by first | assumption | (simp only [grow_grow, Array.append_assoc]; assumption) | exact Grew.refl _ | (simp only [grow_grow, Array.append_assoc]; exact (by repeat (first | with_reducible exact Grew.refl _ | with_reducible apply Grew.alloc | with_reducible apply Grew.grow | with_reducible apply Grew.drew | with_reducible apply Grew.drewN))) | exact (by repeat (first | with_reducible exact Grew.refl _ | with_reducible apply Grew.alloc | with_reducible apply Grew.grow | with_reducible apply Grew.drew | with_reducible apply Grew.drewN))), ?_⟩
        refine flowX_abs ?_
        intro W hW
        have gW : Grew Y W := by rw [hW]; exact (by repeat (first | with_reducible exact Grew.refl _ | with_reducible apply Grew.alloc | with_reducible apply Grew.grow | with_reducible apply Grew.drew | with_reducible apply Grew.drewN))
        have sh : ShowsT W (.slice (some ⟨Y.heap.size + δf.n, 0, none⟩) 1 1) [R] := by rw [hW]; exact showsE_one_g Tot.cs_len Y δf R _ _ (Nat.le_refl _)
        have GW := Lib.hid (GY.out.trans gW)
        have SH := Lib.hid sh
        obtain ⟨b3, hb3⟩ : ∃ b3, Y.heap.size + δf.n = b3 := ⟨_, rfl⟩
        rw [hb3] at SH ⊢
        have hlen := leavesT_len ids work k
        clear hW gW sh hb3 GY ql
        refine wpFlowX_esc 10 (by decide +kernel) (by kernel_rfl) (by decide +kernel) (by decide +kernel) ?_
        simp only [pickOps_cons, pickOps_nil, pick1_zero, pick1_succ]
        intro δf
        refine wpList_appendE2 Tot.cs_len (by decide) rfl _ _ _ rfl _ ii _ 72 under_ts hif hz hsz hby tot0_cells Tot.cs_one w _ w.heap.size _ _ rfl rfl (leavesT ids work k) [R] ((HG.out.trans GW.out).grow _) (Nat.le_refl _) (by have := (HG.out.trans GW.out).size; simp; omega) (by exact (HO.out.grew GW.out).grew (by repeat (first | with_reducible exact Grew.refl _ | with_reducible apply Grew.alloc | with_reducible apply Grew.grow | with_reducible apply Grew.drew | with_reducible apply Grew.drewN))) (by exact SH.out.grew (by repeat (first | with_reducible exact Grew.refl _ | with_reducible apply Grew.alloc | with_reducible apply Grew.grow | with_reducible apply Grew.drew | with_reducible apply Grew.drewN))) (by rw [hlen]; simp [maxLen]; omega) (by rw [hlen]; simp; omega) ?_
        intro v2 W2 ho2 hg2
        rw [← HLA2.out, ← leavesT_succ] at ho2
        have HO2 := Lib.hid ho2
        have HG2 := Lib.hid hg2
        clear ho2 hg2 GW SH hlen
        refine wpList_nil_then ?_
        refine wpAny_one 11 (by decide +kernel) (by kernel_rfl) (by decide +kernel) ?_
        simp only [pickOps_cons, pickOps_nil, pick1_zero, pick1_succ]
        go_wp2_with (fail)
        refine wpAny_end (by decide +kernel) (by kernel_rfl) ?_
        go_wp2
        exact ⟨⟨k + 1, by have := HK.out; omega, by go_num, HO2.out, HG2.out⟩, by have := HK.out; simp only [intOf]; omega⟩
    · obtain rfl : k = N := by omega
      have hge : ¬ ((k : Int) < (k : Int)) := by omega
      rw [show ids.length = k from HN.out] at *
      clear hk hn
      go_wp2
      go_ret
      exact ⟨_, rfl, HO.out, HG.out⟩
end Go.Proofs.Ytnhcamklammcdaa
/- slices.Backward of totals: what its closure does, and what it hands out. -/
namespace Go.Proofs.Ytnhcamklammcdaa
set_option linter.unusedVariables false
set_option linter.unusedSimpArgs false
open Go.RowKit Go.Shelf
attribute [local go_sem] Oper.semAt_some
theorem old_alloc (w : World) (o : Obj) (i : Nat) (h : i < w.heap.size) : (w.alloc o).heap[i]? = w.heap[i]? := by rw [alloc_is_grow]; exact heap_grow_old w _ i h
/-- From the last one down, so many. -/
def downs (m k : Nat) : List Nat := (List.range k).map fun j => m - 1 - j
theorem downs_succ (m k : Nat) : downs m (k + 1) = downs m k ++ [m - 1 - k] := by simp [downs, List.range_succ]
theorem downs_len (m k : Nat) : (downs m k).length = k := by simp [downs]
theorem KeptBut.range {g n1 : Nat} {A B : World} (h : KeptBut g n1 A B) {b o : Nat} {cs : List Value} (h1 : b < n1) (h2 : b ≠ g) (hc : A.rangeAt b o cs) : B.rangeAt b o cs := fun j v hj => h.cell (p := ⟨b, o + j, none⟩) h1 h2 (hc j v hj)
def atT (ls : List Tot) (x : Nat) : Tot := ls.getD x tot0
theorem atT_get {ls : List Tot} {x : Nat} (h : x < ls.length) : ls[x]? = some (atT ls x) := by simp [atT, List.getD, List.getElem?_eq_getElem h]
set_option maxRecDepth 100000 in
set_option maxHeartbeats 2000000 in
theorem back1_in (F : Fence) (n : Nat) (hf : F.fn 55) (hro : F.round = none) (hn : 1 ≤ n) (ls : List Tot) (l Bs g n1 b o m cap : Nat) (hm : m ≤ ls.length) (hm2 : m ≤ 1000000) (hb : b < n1) (hbg : b ≠ g) (hs : Bs < n1) (hsg : Bs ≠ g)
    (J Jx : List Nat → World → Prop)
    (hY : ∀ pre x W, J pre W → pre.length < m → x < m → YieldAt F (n - 1) Try.prog l #[.int .i64 (x : Nat), .agg (ta (atT ls x).h.l (atT ls x).w.n (atT ls x).n)] W fun e W' =>
      (e = .returned (.bool true) ∧ J (pre ++ [x]) W' ∧ KeptBut g n1 W W') ∨ (e = .returned (.bool false) ∧ Jx (pre ++ [x]) W'))
    (W : World) (cs : W.cell? ⟨Bs, 0, none⟩ = some (.slice (some ⟨b, o, none⟩) m cap)) (hat : ∀ j x, ls[j]? = some x → W.rangeAt b (o + j * 37) x.cs) (hcap : m ≤ cap) (h0 : J [] W) :
    CallsIn F n Try.prog 55 #[.func (.yield l) #[] #[], .pointer (some ⟨Bs, 0, none⟩)] W fun e W' => (∃ v, e = .returned v) ∧
      ((∃ ys, ys = downs m m ∧ J ys W') ∨ (∃ pre, True ∧ Jx pre W')) := by
  refine callsIn_of_wp Try.func55 rfl hf ?_ hro
  simp only [Try.ntmps55, List.size_toArray, List.length_cons, List.length_nil, Nat.reduceAdd, Nat.reduceSub, Array.replicate_succ, Array.replicate_zero, List.push_toArray, List.append_toArray, List.nil_append, List.cons_append]
  have C1 := Lib.hid cs
  have HA := Lib.hid hat
  have HY := Lib.hid hY
  clear cs hY hat
  have c1 := C1.out
  have mI : (m : Int) ≤ 1000000 := by omega
  gi_wp2
  gi_loopw [3] (fun i wr => ∃ k : Nat, k ≤ m ∧ i = .int .i64 ((m : Int) - 1 - k) ∧ J (downs m k) wr ∧ KeptBut g n1 W wr) (fun i _ => (intOf i + 1).toNat)
  case atStart => exact ⟨0, by omega, by simp, h0, KeptBut.refl _ _ _⟩
  case round =>
    obtain ⟨k, hk, rfl, hJs, hkp⟩ := hrel
    have c1 := hkp.cell (p := ⟨Bs, 0, none⟩) hs hsg C1.out
    by_cases hlt : k < m
    · obtain ⟨x, hx⟩ : ∃ x, m = k + 1 + x := ⟨m - (k + 1), by omega⟩
      have hxm : x < m := by omega
      obtain ⟨fn, tmps, assign, body, hy, hR⟩ := HY.out _ x wr hJs (by rw [downs_len]; exact hlt) hxm
      have e1 : (m : Int) - 1 - k = (x : Int) := by omega
      have hld := load_totm (hkp.range hb hbg (HA.out x _ (atT_get (show x < ls.length by omega))))
      unfold Tot.v at hld
      have hxl := (atT ls x).h.len
      have HR := Lib.hid hR
      have HJ := Lib.hid hJs
      have HP := Lib.hid hkp
      have HX := Lib.hid hx
      have d1 : downs m (k + 1) = downs m k ++ [x] := by rw [downs_succ]; congr 2; omega
      have D1 := Lib.hid d1
      have xI : (x : Int) < (m : Int) := by omega
      rw [e1]
      clear hR hJs hkp hx e1 d1 hlt hk
      gi_wp2
      refine HR.out.mono ?_
      rintro e W3 (⟨rfl, hJ3, hk3⟩ | ⟨rfl, hJx3⟩)
      · have hk4 : KeptBut g n1 W W3 := fun i i1 i2 => (hk3 i i1 i2).trans (HP.out i i1 i2)
        clear c1 hld
        gi_wp2
        go_roundw
        case rel => exact ⟨k + 1, by have := HX.out; omega, by have := HX.out; congr 1; omega, by rw [D1.out]; exact hJ3, hk4⟩
        case measure => simp only [intOf]; omega
      · gi_wp2
        refine bodyPost_ret (results_none rfl _ _ _) rfl ?_
        exact ⟨⟨_, rfl⟩, .inr ⟨_, trivial, hJx3⟩⟩
    · obtain rfl : k = m := by omega
      have e1 : (k : Int) - 1 - k = -1 := by omega
      rw [e1]
      clear hk hlt HY
      gi_wp2
      go_end0
      exact ⟨⟨_, rfl⟩, .inl ⟨_, rfl, hJs⟩⟩
end Go.Proofs.Ytnhcamklammcdaa
/- mmr.Root. -/
namespace Go.Proofs.Ytnhcamklammcdaa
set_option linter.unusedVariables false
set_option linter.unusedSimpArgs false
open Go.RowKit Go.Shelf
set_option maxRecDepth 100000
attribute [local go_sem] Oper.semAt_some
theorem back_in (F : Fence) (n : Nat) (hf : F.fn 39) (hro : F.round = none) (a : Option Addr) (len cap : Nat) (w : World) :
    CallsIn F n Try.prog 39 #[.slice a len cap] w fun e w' => e = .returned (.func (.func 55) #[] #[.pointer (some ⟨w.heap.size, 0, none⟩)]) ∧
      w' = w.alloc (.cells #[.slice a len cap] 22) := by
  refine callsIn_of_wp Try.func39 rfl hf ?_ hro
  simp only [Try.ntmps39, List.size_toArray, List.length_cons, List.length_nil, Nat.reduceAdd, Nat.reduceSub, Array.replicate_succ, Array.replicate_zero, List.push_toArray, List.append_toArray, List.nil_append, List.cons_append]
  gi_wp2
  go_ret
  exact ⟨rfl, rfl⟩
theorem back_stops (F : Fence) (n : Nat) (hf : F.fn 55) (hro : F.round = none) (hn : 1 ≤ n) (ls : List Tot) (Bs g n1 b o m cap : Nat) (hm : m ≤ ls.length) (hm2 : m ≤ 1000000) (hb : b < n1) (hbg : b ≠ g) (hs : Bs < n1) (hsg : Bs ≠ g)
    (w : World) (hn1 : n1 ≤ w.heap.size) (cs : w.cell? ⟨Bs, 0, none⟩ = some (.slice (some ⟨b, o, none⟩) m cap)) (hat : ∀ j x, ls[j]? = some x → w.rangeAt b (o + j * 37) x.cs) (hcap : m ≤ cap) :
    SeqStopsK F n Try.prog 55 #[.pointer (some ⟨Bs, 0, none⟩)] (fun x : Part m => #[Value.int .i64 ((x.1 : Nat) : Int), .agg (ta (atT ls x.1).h.l (atT ls x.1).w.n (atT ls x.1).n)]) (KeptBut g n1)
      (fun ys => ys.map (·.1) = downs m m) (fun _ => True) m w := fun l J Jx W hW hJ hJx hY h0 => by
  have cs' := (hW.cell (p := ⟨Bs, 0, none⟩) (Nat.lt_of_lt_of_le hs hn1)).trans cs
  have hat' : ∀ j x, ls[j]? = some x → W.rangeAt b (o + j * 37) x.cs := fun j x hj i v hi => (hW.cell (p := ⟨b, _, none⟩) (Nat.lt_of_lt_of_le hb hn1)).trans (hat j x hj i v hi)
  refine (back1_in F n hf hro hn ls l Bs g n1 b o m cap hm hm2 hb hbg hs hsg (fun ys W => ∃ zs : List (Part m), zs.map (·.1) = ys ∧ J zs W) (fun ys W => ∃ zs : List (Part m), zs.map (·.1) = ys ∧ Jx zs W) ?_ W cs' hat' hcap ⟨[], rfl, h0⟩).mono ?_
  · rintro pre x W1 ⟨zs, rfl, hJz⟩ hlen hx
    obtain ⟨fn, tmps, assign, body, hy, hR⟩ := hY zs ⟨x, hx⟩ W1 hJz (by simpa using hlen)
    refine ⟨fn, tmps, assign, body, hy, hR.mono ?_⟩
    rintro e W2 (⟨rfl, h1, h2⟩ | ⟨rfl, h1⟩)
    · exact .inl ⟨rfl, ⟨_, by simp, h1⟩, h2⟩
    · exact .inr ⟨rfl, ⟨_, by simp, h1⟩⟩
  · rintro e W' ⟨he, ⟨ys, rfl, zs, e1, h1⟩ | ⟨pre, _, zs, e1, h1⟩⟩
    · exact ⟨he, .inl ⟨zs, e1, h1⟩⟩
    · exact ⟨he, .inr ⟨zs, trivial, h1⟩⟩
/-- What the totals make, in whatever order they come. -/
noncomputable def foldT (ls : List Tot) (x : Tot) (ks : List Nat) : Tot := ks.foldl (fun y k => Tot.join (atT ls k) y) x
theorem foldT_snoc (ls : List Tot) (x : Tot) (ks : List Nat) (k : Nat) : foldT ls x (ks ++ [k]) = Tot.join (atT ls k) (foldT ls x ks) := by simp [foldT]
theorem foldT_downs (ls : List Tot) (x : Tot) (m : Nat) (hm : ls.length = m + 1) (hx : ls[m]? = some x) : ∀ k, k ≤ m → foldT ls x (downs m k) = peakL (ls.drop (m - k))
  | 0, _ => by
    rw [Nat.sub_zero, peakL_last ls m x hx (by omega)]
    rfl
  | k + 1, h => by
    rw [downs_succ, foldT_snoc, foldT_downs ls x m hm hx k (by omega), peakL_drop ls (m - (k + 1)) (atT ls (m - 1 - k)) ?_ (by omega)]
    · rw [show m - (k + 1) + 1 = m - k by omega]
    · rw [show m - (k + 1) = m - 1 - k by omega]
      exact atT_get (by omega)
theorem root_nil (v : Value) (w : World) (hv : ShowsT w v []) : Calls Try.prog 18 #[v] w fun e w' => e = .returned (peakL []).v ∧ Grew w w' := by
  obtain ⟨p, c, rfl⟩ := showsT_form hv
  clear hv
  have hsl := (Idb.sum [4]).len
  have hz := id0_len
  simp only [List.length_nil]
  go_enter Try.func18, Try.ntmps18
  go_wp2_with (go_at_call 38; refine stop_of ?_)
  unfold Stop
  refine (sum4_w _ _ (by simp)).mono ?_
  rintro e w' ⟨rfl, δ, rfl⟩
  go_wp2
  exact bodyPost_ret (v := tnone.v) (tot_result rfl _ rfl (h := (Idb.sum [4]).l) (x := 0) (n := 0) (by simp [go_sem]) hsl) rfl ⟨rfl, (by repeat (first | with_reducible exact Grew.refl _ | with_reducible apply Grew.alloc | with_reducible apply Grew.grow | with_reducible apply Grew.drew | with_reducible apply Grew.drewN))⟩
set_option maxHeartbeats 4000000 in
theorem root_in (F : Fence) (n : Nat) (hF : F = .wide) (hn : 3 ≤ n) (ls : List Tot) (v : Value) (w : World) (hl : ls.length ≤ 1000000) (h0 : 0 < ls.length) (hv : ShowsT w v ls) :
    CallsIn F n Try.prog 18 #[v] w fun e w' => e = .returned (peakL ls).v ∧ Grew w w' := by
  obtain ⟨p, c, rfl⟩ := showsT_form hv
  have hz := id0_len
  have h1 : 1 ≤ n := by omega
  obtain ⟨b, o, rfl, -, hc, hb, hat⟩ := showsT_some hv h0
  have HA := Lib.hid hat
  obtain ⟨N, hN⟩ : ∃ N, ls.length = N := ⟨_, rfl⟩
  have HN := Lib.hid hN
  rw [hN] at hl h0 hc ⊢
  obtain ⟨m, hm⟩ : ∃ m, N = m + 1 := ⟨N - 1, by omega⟩
  obtain ⟨x, hx⟩ : ∃ x, ls[m]? = some x := ⟨_, List.getElem?_eq_getElem (by omega)⟩
  have hld := load_totm (rangeAt_grew (hat m x hx) (show Grew w (w.alloc (.cells (ta id0 0 0) 29)) from (by repeat (first | with_reducible exact Grew.refl _ | with_reducible apply Grew.alloc | with_reducible apply Grew.grow | with_reducible apply Grew.drew | with_reducible apply Grew.drewN))))
  unfold Tot.v at hld
  have hxl := x.h.len
  have e1 : (N : Int) - 1 = (m : Int) := by omega
  have e3 : (m : Int) < (N : Int) := by omega
  have hfold := foldT_downs ls x m (by omega) hx m (Nat.le_refl _)
  rw [Nat.sub_self, List.drop_zero] at hfold
  have HFO := Lib.hid hfold
  have hNI : (N : Int) ≤ 1000000 := by omega
  have n0 : ¬ N = 0 := by omega
  have mc : (m : Int) ≤ (c : Int) := by omega
  have HM := Lib.hid hm
  have HC := Lib.hid hc
  have HL := Lib.hid hl
  clear hv hat hx hc hN hm hl h0 hfold
  subst hF
  refine callsIn_of_wp_marks Try.func18 rfl trivial ?_ rfl
  simp only [Try.ntmps18, List.size_toArray, List.length_cons, List.length_nil, Nat.reduceAdd, Nat.reduceSub, Array.replicate_succ, Array.replicate_zero, List.push_toArray, List.append_toArray, List.nil_append, List.cons_append]
  gi_wp2
  refine ⟨trivial, (back_in .wide (n - 1) trivial rfl _ _ _ _).mono ?_⟩
  rintro e w3 ⟨rfl, hw3⟩
  obtain ⟨r0, hr0⟩ : ∃ r0, w.heap.size = r0 := ⟨_, rfl⟩
  have hsz : w3.heap.size = r0 + 1 + 1 + 1 := by rw [hw3, ← hr0]; simp
  have hg3 : Grew w w3 := by rw [hw3]; exact (by repeat (first | with_reducible exact Grew.refl _ | with_reducible apply Grew.alloc | with_reducible apply Grew.grow | with_reducible apply Grew.drew | with_reducible apply Grew.drewN))
  have c1 : w3.cell? ⟨r0 + 1 + 1, 0, none⟩ = some (.slice (some ⟨b, o, none⟩) m c) := by rw [hw3, ← hr0]; simp [go_sem]
  have p1 : w3.rowAt r0 = ta id0 0 0 := by rw [hw3, ← hr0]; simp [go_sem]
  have p2 : w3.rowFree r0 = true := by rw [hw3, ← hr0]; simp [go_sem]
  have p3 : w3.rowAt (r0 + 1) = ta x.h.l x.w.n x.n := by rw [hw3, ← hr0]; simp [go_sem]
  have p4 : w3.rowFree (r0 + 1) = true := by rw [hw3, ← hr0]; simp [go_sem]
  have hA3 : ∀ j y, ls[j]? = some y → w3.rangeAt b (o + j * 37) y.cs := fun j y hj => rangeAt_grew (HA.out j y hj) hg3
  have bs : (((w.alloc (Obj.cells (ta id0 0 0) 29)).alloc (Obj.cells (ta x.h.l x.w.n x.n) 29)).heap.size) = r0 + 1 + 1 := by rw [← hr0]; simp
  have HG3 := Lib.hid hg3
  have HA3 := Lib.hid hA3
  rw [bs, hr0]
  rw [hr0] at hb
  have HR0 := Lib.hid hr0
  clear hw3 hld hg3 hA3 hr0 bs
  gi_wp2
  refine wpIn_rangeFunc_ownH rfl h1 (gf := 55) (lb := #[.pointer (some ⟨r0 + 1 + 1, 0, none⟩)]) rfl trivial (enters_of Try.func55 (by kernel_rfl) rfl)
    (back_stops .wide (n - 1) trivial rfl (by omega) ls (r0 + 1 + 1) (r0 + 1) w3.heap.size b o m c (by have := HN.out; have := HM.out; omega) (by have := HL.out; have := HM.out; omega) (by omega) (by omega) (by omega) (by omega) w3 (Nat.le_refl _) c1 HA3.out (by have := HC.out; have := HM.out; omega))
    (fun h k => h.trans k) (fun W l o o' hl h _ _ k hk hne => World.putObj_heap_other (by omega)) (Below.refl _ _) (fun _ => rfl)
    (fun pre W => Grew (w3.setRow (r0 + 1) (ta (foldT ls x (pre.map (·.1))).h.l (foldT ls x (pre.map (·.1))).w.n (foldT ls x (pre.map (·.1))).n)) W) (fun _ _ _ => False) (own_grew _ _ (fun _ => setRow_size _ _ _)) (fun _ _ _ _ _ hs _ _ => hs)
    (by rw [show foldT ls x (List.map (·.1) ([] : List (Part m))) = x from rfl, ← p3, setRow_same' _ _ p4]; exact Grew.refl _)
    (fun z a' W => ∃ g5, a' = { tmps := #[.slice (some ⟨b, o, none⟩) N c, undef, .pointer (some ⟨r0, 0, none⟩), .pointer (some ⟨r0 + 1, 0, none⟩), undef, .pointer (some ⟨g5, 0, none⟩), .slice (some ⟨b, o, none⟩) N c, .int .i64 N, .bool false, undef, undef, undef, .slice (some ⟨b, o, none⟩) N c, .slice (some ⟨b, o, none⟩) N c, .int .i64 N, .int .i64 m, .pointer (some ⟨b, o + m * 37, none⟩), .agg (ta x.h.l x.w.n x.n), .slice (some ⟨b, o, none⟩) N c, .slice (some ⟨b, o, none⟩) N c, .int .i64 N, .int .i64 m, .slice (some ⟨b, o, none⟩) m c, .func (.func 55) #[] #[.pointer (some ⟨r0 + 1 + 1, 0, none⟩)], .int .i64 ((z.1 : Nat) : Int), .agg (ta (atT ls z.1).h.l (atT ls z.1).w.n (atT ls z.1).n), undef, undef, undef, undef], defers := [] } ∧ W.heap[g5]? = some (.cells (ta (atT ls z.1).h.l (atT ls z.1).w.n (atT ls z.1).n) 29 (0, 0)) ∧ w3.heap.size ≤ g5) ?own ?assign ?body ?done ?stop
  case own =>
    rintro z a' _ W W' row ⟨g5, ha, h5, hb5⟩ hg hr
    refine ⟨g5, ha, (hg.block g5 (Array.getElem?_eq_some_iff.1 h5).1 (fun e => ?_)).trans h5, hb5⟩
    obtain ⟨_, ob, hob, hoc⟩ := hr g5 e.symm
    rw [h5] at hob
    cases hob
    cases hoc
  case assign =>
    intro l pre z W K hI hK
    have hzl := (atT ls z.1).h.len
    have hsW : w3.heap.size ≤ W.heap.size := by have := hI.size; rw [setRow_size] at this; exact this
    gi_wp2
    refine hK _ _ ?_ ?_ ?_ ⟨_, rfl, heap_alloc_new W _, hsW⟩
    · exact ⟨by simp, fun k o hk h0 ho => by rw [old_alloc _ _ _ (Array.getElem?_eq_some_iff.1 h0).1]; exact h0⟩
    · exact fun k hk hne => old_alloc _ _ _ (by omega)
    · exact hI.alloc _
  case body =>
    rintro lb pre z a' W hlb hlr hI ⟨g5, rfl, h5, hg5⟩ hlen
    obtain ⟨A, hA⟩ : ∃ A, foldT ls x (pre.map (·.1)) = A := ⟨_, rfl⟩
    have hAl := A.h.len
    obtain ⟨y, hy⟩ : ∃ y, atT ls z.1 = y := ⟨_, rfl⟩
    have hyl := y.h.len
    rw [hA] at hI
    rw [hy] at h5
    have i2 : W.rowAt (r0 + 1) = ta A.h.l A.w.n A.n := by rw [Grew.rowAt hI _ (by rw [setRow_size]; omega), rowAt_setRow_free _ _ _ p4]
    have i3 : W.rowFree (r0 + 1) = true := by rw [Grew.rowFree hI _ (by rw [setRow_size]; omega), rowFree_setRow_free _ _ _ p4]
    have i5 : W.rowAt g5 = ta y.h.l y.w.n y.n := by unfold World.rowAt; rw [h5]
    have hsW : w3.heap.size ≤ W.heap.size := by have := hI.size; rw [setRow_size] at this; exact this
    have hj := (Tot.join y A).h.len
    have l1 : r0 + 1 < W.heap.size := by omega
    have HI := Lib.hid hI
    have HA2 := Lib.hid hA
    have HY := Lib.hid hy
    have HG5 := Lib.hid hg5
    rw [hy]
    clear hI p1 p2 p3 c1 h5 hA hy hg5 hlr hlb hlen
    gi_wp2
    refine ⟨trivial, fun _ => by omega, (CallsIn.inRound lb (callsIn_wide.2 (join_w y A W))).mono ?_⟩
    rintro e W' ⟨rfl, hg'⟩
    have k2 : W'.rowAt (r0 + 1) = ta A.h.l A.w.n A.n := by rw [Grew.rowAt hg' _ l1]; exact i2
    have k3 : W'.rowFree (r0 + 1) = true := by rw [Grew.rowFree hg' _ l1]; exact i3
    unfold Tot.v
    have HG' := Lib.hid hg'
    clear hg' i2 i3 i5
    gi_wp2
    have hg'' : Grew (W.setRow (r0 + 1) (ta (y.join A).h.l (y.join A).w.n (y.join A).n)) (W'.setRow (r0 + 1) (ta (y.join A).h.l (y.join A).w.n (y.join A).n)) := Grew.setRow_old HG'.out _ _ l1
    obtain ⟨k1, k2, k3⟩ := part_step w3 W _ (r0 + 1) w3.heap.size _ _ (by omega) rfl p4 HI.out hg''
    refine ⟨k1, k2, ?_⟩
    show Grew (w3.setRow (r0 + 1) (ta (foldT ls x ((pre ++ [z]).map (·.1))).h.l (foldT ls x ((pre ++ [z]).map (·.1))).w.n (foldT ls x ((pre ++ [z]).map (·.1))).n)) _
    rw [List.map_append, List.map_cons, List.map_nil, foldT_snoc, HA2.out, HY.out]
    exact k3
  case done =>
    rintro D ys W hD hS hI HDD
    rw [hS, HFO.out] at hI
    obtain ⟨A, hA⟩ : ∃ A, peakL ls = A := ⟨_, rfl⟩
    rw [hA] at hI
    have HPK := Lib.hid hA
    have hAl := A.h.len
    have i2 : W.rowAt (r0 + 1) = ta A.h.l A.w.n A.n := by rw [Grew.rowAt hI _ (by rw [setRow_size]; omega), rowAt_setRow_free _ _ _ p4]
    have i3 : W.rowFree (r0 + 1) = true := by rw [Grew.rowFree hI _ (by rw [setRow_size]; omega), rowFree_setRow_free _ _ _ p4]
    have i5 : W.rowAt r0 = ta id0 0 0 := by rw [Grew.rowAt hI _ (by rw [setRow_size]; omega), rowAt_of_heap (heap_setRow_other _ _ _ _ (by omega))]; exact p1
    have i6 : W.rowFree r0 = true := by rw [Grew.rowFree hI _ (by rw [setRow_size]; omega), rowFree_of_heap (heap_setRow_other _ _ _ _ (by omega))]; exact p2
    have hgW : Grew w W := (Grew.setRow_new HG3.out (r0 + 1) _ (by have := HR0.out; omega)).trans hI
    have hsW : w3.heap.size ≤ W.heap.size := by have := hI.size; rw [setRow_size] at this; exact this
    have HGW := Lib.hid hgW
    have l0 : r0 < W.heap.size := by omega
    have l1 : r0 + 1 < W.heap.size := by omega
    clear hI p1 p2 p3 p4 c1 hgW hA
    gi_wp2
    have hDW : D < W.heap.size := (Array.getElem?_eq_some_iff.1 HDD).1
    have hDr : D ≠ r0 := by omega
    have e0 : w.heap.size = r0 := HR0.out
    have hD2 : (W.setRow r0 (ta A.h.l A.w.n A.n)).heap[D]? = some (.deferred (some [])) := by
      rw [heap_setRow_other _ _ _ _ hDr]; exact HDD
    refine ⟨by simp, .inl ⟨_, _, rfl, run_takeDeferred hD2, ?_⟩⟩
    refine ⟨_, tot_result rfl _ rfl (h := A.h.l) (x := A.w.n) (n := A.n) ?_ hAl, ?_, ?_⟩
    · rw [rowAt_of_heap (World.putObj_heap_other (Ne.symm hDr)), rowAt_setRow_free _ _ _ i6]
    · rw [HPK.out]; rfl
    · exact Grew.grown (Grew.setRow_new HGW.out r0 _ (by omega)) (grownBy_putObj' _ D (.deferred none)) (fun k e => by cases e; omega)
  case stop =>
    rintro D c pre W _ _ h _
    exact h.elim
theorem root_w (ls : List Tot) (v : Value) (w : World) (hl : ls.length ≤ 1000000) (hv : ShowsT w v ls) : Calls Try.prog 18 #[v] w fun e w' => e = .returned (peakL ls).v ∧ Grew w w' := by
  rcases Nat.eq_zero_or_pos ls.length with h0 | h0
  · obtain rfl : ls = [] := List.length_eq_zero_iff.1 h0
    exact root_nil v w hv
  · exact (callsIn_wide (n := 3)).1 (root_in .wide 3 rfl (Nat.le_refl _) ls v w hl h0 hv)
end Go.Proofs.Ytnhcamklammcdaa
/- Peaks of leaves: the root of what is appended one by one is the total of all. No program in sight. -/
namespace Go.Proofs.Ytnhcamklammcdaa
set_option linter.unusedVariables false
set_option linter.unusedSimpArgs false
open Go.RowKit
set_option maxRecDepth 100000
/-- Each is one leaf. -/
def Ones (l : List Tot) : Prop := ∀ x ∈ l, x.n = 1
theorem Ones.take {l : List Tot} (h : Ones l) (k : Nat) : Ones (l.take k) := fun x hx => h x (List.mem_of_mem_take hx)
theorem Ones.drop {l : List Tot} (h : Ones l) (k : Nat) : Ones (l.drop k) := fun x hx => h x (List.mem_of_mem_drop hx)
theorem Ones.left {a b : List Tot} (h : Ones (a ++ b)) : Ones a := fun x hx => h x (List.mem_append_left _ hx)
theorem Ones.right {a b : List Tot} (h : Ones (a ++ b)) : Ones b := fun x hx => h x (List.mem_append_right _ hx)
theorem join_n (a b : Tot) : (Tot.join a b).n = wrap64 (a.n + b.n) := rfl
theorem join_wn (a b : Tot) : (Tot.join a b).w = a.w.add b.w := rfl
theorem wrap_nat (k : Nat) (h : k ≤ 1099511627776) : wrap64 (k : Int) = (k : Int) := by unfold wrap64; omega
/-- How many, and how much. -/
def wsum (l : List Tot) : Nat := (l.map fun x => x.w.n).sum
theorem wsum_append (a b : List Tot) : wsum (a ++ b) = wsum a + wsum b := by simp [wsum]
theorem allT_nw : ∀ (f : Nat) (l : List Tot), l.length ≤ f → 1 ≤ l.length → l.length ≤ 1099511627776 → Ones l → (allT l).n = (l.length : Int) ∧ (allT l).w.n = wsum l % B256
  | 0, l, hf, h1, _, _ => by omega
  | f + 1, l, hf, h1, hb, ho => by
    rcases Nat.lt_or_ge l.length 2 with h2 | h2
    · obtain ⟨x, rfl⟩ : ∃ x, l = [x] := List.length_eq_one_iff.1 (by omega)
      rw [allT_one]
      exact ⟨ho x (by simp), by simp [wsum, Nat.mod_eq_of_lt x.w.lt]⟩
    · have hs := half_sand l.length h2 hb
      have hp := half_pos l.length
      have l1 : (l.take (halfN l.length)).length = halfN l.length := by rw [List.length_take]; omega
      have l2 : (l.drop (halfN l.length)).length = l.length - halfN l.length := by rw [List.length_drop]
      obtain ⟨n1, w1⟩ := allT_nw f (l.take (halfN l.length)) (by omega) (by omega) (by omega) (ho.take _)
      obtain ⟨n2, w2⟩ := allT_nw f (l.drop (halfN l.length)) (by omega) (by omega) (by omega) (ho.drop _)
      rw [allT_cut l h2 hb, join_n, join_wn, n1, n2, l1, l2, Wd.add_n, w1, w2]
      refine ⟨?_, ?_⟩
      · rw [show ((halfN l.length : Nat) : Int) + ((l.length - halfN l.length : Nat) : Int) = (l.length : Int) by omega]
        exact wrap_nat _ hb
      · rw [← Nat.add_mod, ← wsum_append, List.take_append_drop]
theorem half_two (e m : Nat) (h1 : 1 ≤ m) (h2 : m ≤ 2 ^ e) (hb : 2 ^ e + m ≤ 1099511627776) : halfN (2 ^ e + m) = 2 ^ e := by
  have hp : 0 < 2 ^ e := Nat.two_pow_pos e
  exact (half_uniq (2 ^ e + m) e (by omega) hb (by omega) (by omega)).symm
theorem all_two (a b : List Tot) (e : Nat) (ha : a.length = 2 ^ e) (h1 : 1 ≤ b.length) (h2 : b.length ≤ 2 ^ e) (hb : a.length + b.length ≤ 1099511627776) : allT (a ++ b) = Tot.join (allT a) (allT b) := by
  have hh : halfN (a ++ b).length = a.length := by rw [List.length_append, ha]; exact half_two e _ h1 h2 (by omega)
  have hp : 0 < 2 ^ e := Nat.two_pow_pos e
  rw [allT_cut (a ++ b) (by rw [List.length_append]; omega) (by rw [List.length_append]; exact hb), hh, List.take_left' rfl, List.drop_left' rfl]
/-- The peaks of these leaves, the least one first; each is of 2^b leaves at least. -/
inductive PkR : List Tot → List Tot → Nat → Prop
  | nil (b : Nat) : PkR [] [] b
  | cons (ps l1 l2 : List Tot) (b e : Nat) (hb : b ≤ e) (hl : l2.length = 2 ^ e) (h : PkR ps l1 (e + 1)) : PkR (allT l2 :: ps) (l1 ++ l2) b
theorem PkR.less {ps l : List Tot} {b : Nat} (h : PkR ps l b) {c : Nat} (hc : c ≤ b) : PkR ps l c := by
  cases h with
  | nil => exact .nil c
  | cons ps l1 l2 _ e hb hl h => exact .cons ps l1 l2 c e (by omega) hl h
theorem merge_pk : ∀ (ps l1 l2 : List Tot) (e : Nat), PkR ps l1 e → l2.length = 2 ^ e → Ones (l1 ++ l2) → (l1 ++ l2).length ≤ 1099511627776 → PkR (mergeR (allT l2 :: ps)) (l1 ++ l2) e := by
  intro ps
  induction ps with
  | nil =>
    intro l1 l2 e h hl ho hb
    cases h
    rw [mergeR_one _ (by simp)]
    exact .cons [] [] l2 e e (Nat.le_refl _) hl (.nil _)
  | cons p ps ih =>
    intro l1 l2 e h hl ho hb
    cases h with
    | cons _ l1a l1b _ e' hbe hl' h' =>
      have hp : 0 < 2 ^ e := Nat.two_pow_pos e
      have hp' : 0 < 2 ^ e' := Nat.two_pow_pos e'
      rw [List.length_append, List.length_append] at hb
      have nq := (allT_nw l2.length l2 (Nat.le_refl _) (by omega) (by omega) ho.right).1
      have np := (allT_nw l1b.length l1b (Nat.le_refl _) (by omega) (by omega) ho.left.right).1
      by_cases he : e = e'
      · subst he
        rw [mergeR_two _ _ _ (by rw [nq, np, hl, hl']), ← all_two l1b l2 e hl' (by omega) (by omega) (by omega), List.append_assoc]
        refine (ih l1a (l1b ++ l2) (e + 1) h' (by rw [List.length_append, hl, hl', Nat.pow_succ]; omega) (by rw [← List.append_assoc]; exact ho) (by simp only [List.length_append]; omega)).less (by omega)
      · have hne : ¬ (allT l2).n = (allT l1b).n := by
          rw [nq, np, hl, hl']
          intro h0
          have : 2 ^ e = 2 ^ e' := by omega
          rcases Nat.lt_trichotomy e e' with h3 | h3 | h3
          · have := Nat.pow_lt_pow_right (show 1 < 2 by omega) h3; omega
          · exact he h3
          · have := Nat.pow_lt_pow_right (show 1 < 2 by omega) h3; omega
        rw [mergeR_stop _ _ _ hne]
        exact .cons _ _ l2 e e (Nat.le_refl _) hl (.cons ps l1a l1b (e + 1) e' (by omega) hl' h')
theorem peaks_pk : ∀ (n : Nat) (l : List Tot), l.length = n → Ones l → n ≤ 1099511627776 → PkR (peaksL l).reverse l 0
  | 0, l, h, _, _ => by
    obtain rfl : l = [] := List.length_eq_zero_iff.1 h
    exact .nil 0
  | n + 1, l, h, ho, hb => by
    obtain ⟨m, x, rfl⟩ : ∃ m x, l = m ++ [x] := ⟨l.dropLast, l.getLast (by intro h0; rw [h0] at h; simp at h), (List.dropLast_concat_getLast _).symm⟩
    have hm : m.length = n := by simpa using h
    have ih := peaks_pk n m hm ho.left (by omega)
    rw [peaksL_snoc]
    unfold appT
    rw [List.reverse_reverse, List.reverse_append, List.reverse_singleton, List.singleton_append]
    have := merge_pk (peaksL m).reverse m [x] 0 ih rfl ho (by rw [h]; exact hb)
    rwa [allT_one] at this
/-- From the least one on. -/
theorem fold_pk : ∀ (ps l1 l2 : List Tot) (b : Nat), PkR ps l1 b → 1 ≤ l2.length → l2.length ≤ 2 ^ b → (l1 ++ l2).length ≤ 1099511627776 → ps.foldl (fun out x => Tot.join x out) (allT l2) = allT (l1 ++ l2) := by
  intro ps
  induction ps with
  | nil =>
    intro l1 l2 b h _ _ _
    cases h
    rfl
  | cons p ps ih =>
    intro l1 l2 b h h1 h2 hb
    cases h with
    | cons _ l1a l1b _ e hbe hl h' =>
      have hle : 2 ^ b ≤ 2 ^ e := Nat.pow_le_pow_right (by omega) hbe
      rw [List.length_append, List.length_append] at hb
      rw [List.foldl_cons, ← all_two l1b l2 e hl h1 (by omega) (by omega), List.append_assoc]
      exact ih l1a (l1b ++ l2) (e + 1) h' (by rw [List.length_append]; omega) (by rw [List.length_append, Nat.pow_succ]; omega) (by simp only [List.length_append]; omega)
theorem peakL_snoc : ∀ (m : List Tot) (p : Tot), peakL (m ++ [p]) = m.foldr Tot.join p
  | [], p => by simp [peakL]
  | a :: m, p => by
    have ih := peakL_snoc m p
    rw [List.foldr_cons, ← ih]
    cases m with
    | nil => rfl
    | cons b m => rfl
theorem root_peaks (l : List Tot) (h1 : 1 ≤ l.length) (hb : l.length ≤ 1099511627776) (ho : Ones l) : peakL (peaksL l) = allT l := by
  have h := peaks_pk l.length l rfl ho hb
  obtain ⟨rs, hrs⟩ : ∃ rs, (peaksL l).reverse = rs := ⟨_, rfl⟩
  have e : peaksL l = rs.reverse := by rw [← hrs, List.reverse_reverse]
  rw [hrs] at h
  rw [e]
  clear hrs e
  cases h with
  | nil => simp at h1
  | cons ps l1 l2 _ e hbe hl h' =>
    have hp : 0 < 2 ^ e := Nat.two_pow_pos e
    rw [List.reverse_cons, peakL_snoc, List.foldr_reverse]
    exact fold_pk ps l1 l2 (e + 1) h' (by omega) (by rw [hl, Nat.pow_succ]; omega) hb
end Go.Proofs.Ytnhcamklammcdaa
/- mmr.Path. -/
namespace Go.Proofs.Ytnhcamklammcdaa
set_option linter.unusedVariables false
set_option linter.unusedSimpArgs false
open Go.RowKit
set_option maxRecDepth 100000
theorem stpF_in : ∀ (f o n i : Nat), n ≤ 1099511627776 → ∀ s ∈ stpF f o n i, 1 ≤ s.n ∧ s.o + s.n ≤ o + n
  | 0, o, n, i, _, s, h => by simp [stpF] at h
  | f + 1, o, n, i, hb, s, h => by
    unfold stpF at h
    split at h
    · simp at h
    · have hs := half_sand n (by omega) hb
      have hp := half_pos n
      split at h
      · rcases List.mem_cons.1 h with rfl | h
        · simp only; omega
        · have := stpF_in f o (halfN n) i (by omega) s h; omega
      · rcases List.mem_cons.1 h with rfl | h
        · simp only; omega
        · have := stpF_in f (o + halfN n) (n - halfN n) i (by omega) s h; omega
/-- What a step's other side makes. -/
noncomputable def stpT (ls : List Tot) (s : Stp) : Tot := allT ((ls.drop s.o).take s.n)
theorem stpF_path (ls : List Tot) : ∀ (f n o i : Nat), n ≤ f → 1 ≤ n → n ≤ 1099511627776 → o + n ≤ ls.length → o ≤ i → i < o + n → (stpF n o n i).reverse.map (stpT ls) = pathT ((ls.drop o).take n) (i - o)
  | 0, n, o, i, hf, h1, _, _, _, _ => by omega
  | f + 1, n, o, i, hf, h1, hb, hl, hi, hi2 => by
    have hln : ((ls.drop o).take n).length = n := by rw [List.length_take, List.length_drop]; omega
    rcases Nat.lt_or_ge n 2 with h2 | h2
    · rw [stpF_one _ _ _ _ (by omega), pathT_one _ _ (by omega)]
      rfl
    · have hs := half_sand n h2 hb
      have hp := half_pos n
      have e1 : ((ls.drop o).take n).take (halfN n) = (ls.drop o).take (halfN n) := by rw [List.take_take, Nat.min_eq_left (by omega)]
      have e2 : ((ls.drop o).take n).drop (halfN n) = (ls.drop (o + halfN n)).take (n - halfN n) := by rw [List.drop_take, List.drop_drop]
      by_cases hk : i < o + halfN n
      · rw [stpF_left o n i h2 hb hk, List.reverse_cons, List.map_append, stpF_path ls f (halfN n) o i (by omega) hp (by omega) (by omega) hi hk,
          pathT_left ((ls.drop o).take n) (i - o) (by omega) (by omega) (by rw [hln]; omega), hln, e1, e2]
        rfl
      · rw [stpF_right o n i h2 hb hk, List.reverse_cons, List.map_append, stpF_path ls f (n - halfN n) (o + halfN n) i (by omega) (by omega) (by omega) (by omega) (by omega) (by omega),
          pathT_right ((ls.drop o).take n) (i - o) (by omega) (by omega) (by rw [hln]; omega), hln, e1, e2, Nat.sub_sub]
        rfl
set_option maxHeartbeats 6400000 in
theorem path_w (ls : List Tot) (i : Int) (v : Value) (w : World) (hv : ShowsT w v ls) :
    Calls Try.prog 13 #[v, .int .i64 i] w fun e w' => ∃ v', e = .returned (.tuple #[v', .bool (tpathOk ls i)]) ∧ OwnT w' w.heap.size 29 v' (tpathOf ls i) ∧ Grew w w' := by
  obtain ⟨p, c, rfl⟩ := showsT_form hv
  by_cases h1 : 64 < ls.length
  · have hc := tpathOk_no (ls := ls) (i := i) (by omega)
    have h1' : (64 : Int) < (ls.length : Int) := by omega
    rw [hc.1, hc.2]
    clear hv hc
    go_enter Try.func13, Try.ntmps13
    go_wp2
    go_ret2
    exact ⟨_, rfl, OwnE.nil _ _ _, (by repeat (first | with_reducible exact Grew.refl _ | with_reducible apply Grew.alloc | with_reducible apply Grew.grow | with_reducible apply Grew.drew | with_reducible apply Grew.drewN))⟩
  by_cases h2 : i < 0
  · have hc := tpathOk_no (ls := ls) (i := i) (by omega)
    have h1' : (ls.length : Int) ≤ 64 := by omega
    rw [hc.1, hc.2]
    clear hv hc
    go_enter Try.func13, Try.ntmps13
    go_wp2
    go_ret2
    exact ⟨_, rfl, OwnE.nil _ _ _, (by repeat (first | with_reducible exact Grew.refl _ | with_reducible apply Grew.alloc | with_reducible apply Grew.grow | with_reducible apply Grew.drew | with_reducible apply Grew.drewN))⟩
  by_cases h3 : (ls.length : Int) ≤ i
  · have hc := tpathOk_no (ls := ls) (i := i) (by omega)
    have h1' : (ls.length : Int) ≤ 64 := by omega
    have h2' : 0 ≤ i := by omega
    rw [hc.1, hc.2]
    clear hv hc
    go_enter Try.func13, Try.ntmps13
    go_wp2
    go_ret2
    exact ⟨_, rfl, OwnE.nil _ _ _, (by repeat (first | with_reducible exact Grew.refl _ | with_reducible apply Grew.alloc | with_reducible apply Grew.grow | with_reducible apply Grew.drew | with_reducible apply Grew.drewN))⟩
  obtain ⟨j, rfl⟩ : ∃ j : Nat, i = (j : Int) := ⟨i.toNat, by omega⟩
  obtain ⟨ii, hif, hz, hsz, hby⟩ := info_t
  have hok : tpathOk ls j = true := decide_eq_true ⟨by omega, by omega, by omega⟩
  have hof : tpathOf ls j = pathT ls j := by unfold tpathOf; rw [if_pos hok]; rfl
  have hpath := stpF_path ls ls.length ls.length 0 j (Nat.le_refl _) (by omega) (by omega) (by omega) (by omega) (by omega)
  rw [List.drop_zero, List.take_length, Nat.sub_zero] at hpath
  have hin := stpF_in ls.length 0 ls.length j (by omega)
  have hsl := stpF_len ls.length 0 ls.length j (by omega)
  rw [hok, hof, ← hpath]
  have hst := fun W => steps_w ls.length j (by omega) (by omega) (by omega) W
  obtain ⟨L, hL⟩ : ∃ L, (stpF ls.length 0 ls.length j).reverse = L := ⟨_, rfl⟩
  have hinL : ∀ s ∈ L, 1 ≤ s.n ∧ s.o + s.n ≤ ls.length := fun s hs => by
    rw [← hL, List.mem_reverse] at hs
    have := hin s hs
    omega
  have hLl : L.length ≤ 64 := by rw [← hL, List.length_reverse]; omega
  rw [hL] at hst ⊢
  obtain ⟨b, o, rfl, -, hcc, hb, hat⟩ := showsT_some hv (by omega)
  have HAT := Lib.hid hat
  have HINL := Lib.hid hinL
  have HST := Lib.hid hst
  obtain ⟨N, hN⟩ : ∃ N, ls.length = N := ⟨_, rfl⟩
  have HN := Lib.hid hN
  rw [hN] at h1 h3 HST HINL hcc ⊢
  have h1' : (N : Int) ≤ 64 := by omega
  have h3' : (j : Int) < (N : Int) := by omega
  have h4 : ¬ (N : Int) ≤ (j : Int) := by omega
  have HCC := Lib.hid hcc
  clear hv hat hinL hst hL hpath hin hsl hof hok hcc hN h1 h2 h3
  go_enter Try.func13, Try.ntmps13
  go_wp2_with (go_at_call 31; refine (HST.out _).mono ?_; rintro e A ⟨v1, rfl, ho, hg⟩; have HO := Lib.hid ho; have HG := Lib.hid hg; obtain ⟨q1, c1, rfl⟩ := ownE_len ho; clear ho hg)
  obtain ⟨M, hM⟩ : ∃ M, L.length = M := ⟨_, rfl⟩
  have HM := Lib.hid hM
  rw [hM] at hLl HO ⊢
  clear hM
  go_loopw [27, 6] (fun n v wr => ∃ k : Nat, k ≤ M ∧ n = .int .i64 k ∧ OwnT wr A.heap.size 29 v ((L.take k).map (stpT ls)) ∧ Grew A wr) (fun n _ _ => M - (intOf n).toNat)
  case atStart => exact ⟨0, by omega, rfl, OwnE.nil _ _ _, Grew.refl _⟩
  case round =>
    obtain ⟨k, hk, rfl, ho, hg⟩ := hrel
    have HO2 := Lib.hid ho
    have HG2 := Lib.hid hg
    clear ho hg
    by_cases hn : k < M
    · have hlt : (k : Int) < (M : Int) := by omega
      obtain ⟨s, hs⟩ : ∃ s, L[k]? = some s := ⟨_, List.getElem?_eq_getElem (by rw [HM.out]; exact hn)⟩
      obtain ⟨hs1, hs2⟩ := HINL.out s (List.mem_of_getElem? hs)
      have hMM : (M : Int) ≤ 64 := by omega
      have hso := OwnE.shows Stp.cs_len HO.out
      rcases hso with ⟨gb, go, gc, he, hgc, hgb, hgat⟩ | ⟨_, _, he, hnil⟩
      case inr => have := HM.out; rw [hnil] at this; simp at this; omega
      simp only [Value.slice.injEq] at he
      obtain ⟨rfl, -, rfl⟩ := he
      have hld := load_stepm (rangeAt_grew (rangeAt_grew (hgat k s hs) HG2.out) (show Grew wr wr from Grew.refl _))
      have hsum : (L.take (k + 1)).map (stpT ls) = (L.take k).map (stpT ls) ++ [stpT ls s] := by rw [List.take_add_one, hs, List.map_append]; rfl
      have HSUM := Lib.hid hsum
      have hpt := showsT_part (o := o) hb HAT.out s.o s.n (c - s.o) (by rw [HN.out]; omega) (by have := HCC.out; omega)
      have hwh : ∀ W, Grew w W → Calls Try.prog 32 #[.slice (some ⟨b, o + s.o * 37, none⟩) s.n (c - s.o)] W fun e w' => e = .returned (stpT ls s).v ∧ Grew W w' := fun W g => by
        have hll : ((ls.drop s.o).take s.n).length = s.n := by rw [List.length_take, List.length_drop, HN.out]; omega
        have := whole_w s.n ((ls.drop s.o).take s.n) _ W (by omega) (by omega) (by omega) (hpt.grew g)
        exact this
      unfold Tot.v at hwh
      obtain ⟨so, hso⟩ : ∃ so, s.o = so := ⟨_, rfl⟩
      obtain ⟨sn, hsn⟩ : ∃ sn, s.n = sn := ⟨_, rfl⟩
      simp only [hso, hsn] at hld hs1 hs2 hwh
      obtain ⟨sl, hsl⟩ : ∃ sl, s.l = sl := ⟨_, rfl⟩
      rw [hsl] at hld
      obtain ⟨R, hR⟩ : ∃ R, stpT ls s = R := ⟨_, rfl⟩
      rw [hR] at hwh
      have HR := Lib.hid hR
      have hRl := R.h.len
      have HWH := Lib.hid hwh
      obtain ⟨sh, hsh⟩ : ∃ sh, so + sn = sh := ⟨_, rfl⟩
      have e1 : (so : Int) + (sn : Int) = (sh : Int) := by omega
      have e3 : sh - so = sn := by omega
      have so1 : (so : Int) ≤ 64 := by omega
      have sn1 : (sh : Int) ≤ 64 := by omega
      have se : (so : Int) ≤ (sh : Int) := by omega
      have sc : (sh : Int) ≤ (c : Int) := by have := HCC.out; omega
      have sne : ¬ c = so := by have := HCC.out; omega
      clear hs hs1 hs2 hgat hpt hwh hso hsn hsl hR hsum hgc hn hsh
      go_wp2_with (go_at_call 32; refine stop_of ?_)
      unfold Stop
      refine Calls_abs ?_
      intro Y hY
      have gY : Grew wr Y := by rw [hY]; exact (by repeat (first | with_reducible exact Grew.refl _ | with_reducible apply Grew.alloc | with_reducible apply Grew.grow | with_reducible apply Grew.drew | with_reducible apply Grew.drewN))
      have GY := Lib.hid (HG2.out.trans gY)
      have OY := Lib.hid (HO2.out.grew gY)
      clear hY gY hld
      refine (HWH.out Y (HG.out.trans GY.out)).mono ?_
      rintro e W1 ⟨rfl, hg⟩
      have O1 := Lib.hid (OY.out.grew hg)
      have G1 := Lib.hid (GY.out.trans hg)
      clear hg HWH OY GY
      go_wp2_with (at_builtin; refine stop_of ?_)
      unfold Stop
      refine wpList_abs ?_
      intro W hW
      have gW : Grew W1 W := by rw [hW]; exact (by repeat (first | with_reducible exact Grew.refl _ | with_reducible apply Grew.alloc | with_reducible apply Grew.grow | with_reducible apply Grew.drew | with_reducible apply Grew.drewN))
      have sh : ShowsT W (.slice (some ⟨W1.heap.size, 0, none⟩) 1 1) [R] := by rw [hW]; exact showsE_one Tot.cs_len W1 R _ _ (Nat.le_refl _)
      have OW := Lib.hid (O1.out.grew gW)
      have GW := Lib.hid (G1.out.trans gW)
      have SH := Lib.hid sh
      have hml : ((L.take k).map (stpT ls)).length = k := by rw [List.length_map, List.length_take, HM.out]; omega
      clear hW gW sh O1 G1
      refine wpList_appendE2 Tot.cs_len (by decide) rfl _ _ _ rfl _ ii _ 72 under_ts hif hz hsz hby tot0_cells Tot.cs_one A _ A.heap.size _ _ rfl rfl _ [R] GW.out (Nat.le_refl _) GW.out.size (by exact OW.out) (by exact SH.out) (by rw [hml]; simp [maxLen]; omega) (by rw [hml]; simp; omega) ?_
      intro v2 W2 ho2 hg2
      rw [← HR.out, ← HSUM.out] at ho2
      have O2 := Lib.hid ho2
      have G2 := Lib.hid hg2
      clear ho2 hg2 OW GW SH hml
      go_wp2
      exact ⟨⟨k + 1, by omega, by go_num, O2.out, G2.out⟩, by simp only [intOf]; omega⟩
    · obtain rfl : k = M := by omega
      have hge : ¬ ((k : Int) < (k : Int)) := by omega
      have hall : L.take k = L := List.take_of_length_le (by rw [HM.out]; exact Nat.le_refl _)
      rw [hall] at HO2
      have sA := HG.out.size
      clear hk hn hall
      go_wp2
      go_ret2
      exact ⟨_, rfl, HO2.out.base sA, HG.out.trans HG2.out⟩
end Go.Proofs.Ytnhcamklammcdaa
/- What checking a path of totals makes. No program in sight. -/
namespace Go.Proofs.Ytnhcamklammcdaa
set_option linter.unusedVariables false
set_option linter.unusedSimpArgs false
open Go.RowKit
set_option maxRecDepth 100000
/-- The steps at which place 'i' of 'n' stands, from the least one on. -/
def stps (n i : Nat) : List Stp := (stpF n 0 n i).reverse
theorem stps_len (n i : Nat) (hb : n ≤ 1099511627776) : (stps n i).length + 1 ≤ max n 1 := by unfold stps; rw [List.length_reverse]; exact stpF_len n 0 n i hb
/-- One step up. -/
noncomputable def climb1 (s : Stp) (y : Tot) (p : Tot × Wd) : Option (Tot × Wd) :=
  if p.1.w.addOk y.w = true ∧ y.n = (s.n : Int) then (if s.l = true then some (Tot.join p.1 y, p.2) else some (Tot.join y p.1, p.2.add y.w)) else none
noncomputable def climbT : List Stp → List Tot → Option (Tot × Wd) → Option (Tot × Wd)
  | s :: ss, y :: ys, some p => climbT ss ys (climb1 s y p)
  | _, _, r => r
theorem climbT_none : ∀ (ss : List Stp) (ys : List Tot), climbT ss ys none = none
  | [], _ => rfl
  | _ :: _, [] => rfl
  | _ :: _, _ :: _ => rfl
theorem climbT_snoc : ∀ (ss : List Stp) (ys : List Tot) (r : Option (Tot × Wd)) (s : Stp) (y : Tot), ss.length = ys.length → climbT (ss ++ [s]) (ys ++ [y]) r = (climbT ss ys r).bind (climb1 s y)
  | [], [], r, s, y, _ => by cases r <;> simp [climbT]
  | t :: ss, z :: ys, none, s, y, h => by rw [climbT_none, climbT_none]; rfl
  | t :: ss, z :: ys, some p, s, y, h => by
    rw [List.cons_append, List.cons_append]
    simp only [climbT]
    exact climbT_snoc ss ys _ s y (by simpa using h)
  | [], _ :: _, _, _, _, h => by simp at h
  | _ :: _, [], _, _, _, h => by simp at h
/-- The first 'k' steps. -/
noncomputable def climbK (ss : List Stp) (ys : List Tot) (x : Tot) (k : Nat) : Option (Tot × Wd) := climbT (ss.take k) (ys.take k) (some (x, Wd.zero))
theorem climbK_0 (ss : List Stp) (ys : List Tot) (x : Tot) : climbK ss ys x 0 = some (x, Wd.zero) := rfl
theorem climbK_step (ss : List Stp) (ys : List Tot) (x : Tot) (k : Nat) (s : Stp) (y : Tot) (hl : ss.length = ys.length) (h1 : ss[k]? = some s) (h2 : ys[k]? = some y) : climbK ss ys x (k + 1) = (climbK ss ys x k).bind (climb1 s y) := by
  unfold climbK
  have e1 : ss.take (k + 1) = ss.take k ++ [s] := by rw [List.take_add_one, h1]; rfl
  have e2 : ys.take (k + 1) = ys.take k ++ [y] := by rw [List.take_add_one, h2]; rfl
  rw [e1, e2]
  exact climbT_snoc _ _ _ _ _ (by simp [hl])
theorem climbK_none (ss : List Stp) (ys : List Tot) (x : Tot) (hl : ss.length = ys.length) (k : Nat) (h : climbK ss ys x k = none) : ∀ m, k ≤ m → m ≤ ss.length → climbK ss ys x m = none := by
  intro m hk hm
  induction m with
  | zero => rw [show 0 = k by omega]; exact h
  | succ m ih =>
    rcases Nat.lt_or_ge m k with h2 | h2
    · rw [show m + 1 = k by omega]; exact h
    · rw [climbK_step ss ys x m ss[m] ys[m] hl (List.getElem?_eq_getElem (by omega)) (List.getElem?_eq_getElem (by omega)), ih h2 (by omega)]
      rfl
theorem climbK_all (ss : List Stp) (ys : List Tot) (x : Tot) (hl : ss.length = ys.length) : climbK ss ys x ss.length = climbT ss ys (some (x, Wd.zero)) := by
  unfold climbK
  rw [List.take_length, hl, List.take_length]
/-- May a check begin? -/
def chkIn (root : Tot) (i : Int) (leaf : Tot) : Bool := decide (1 ≤ root.n ∧ root.n ≤ 64 ∧ 0 ≤ i ∧ i < root.n ∧ leaf.n = 1)
/-- What a check tells: the work ahead, if it is right. -/
noncomputable def chkO (root : Tot) (i : Int) (leaf : Tot) (path : List Tot) : Option Wd :=
  if chkIn root i leaf = true ∧ (stps root.n.toNat i.toNat).length = path.length then
    (climbT (stps root.n.toNat i.toNat) path (some (leaf, Wd.zero))).bind fun p => if Tot.eq p.1 root = true then some p.2 else none
  else none
noncomputable def chkW (root : Tot) (i : Int) (leaf : Tot) (path : List Tot) : Wd := (chkO root i leaf path).getD Wd.zero
noncomputable def chkB (root : Tot) (i : Int) (leaf : Tot) (path : List Tot) : Bool := (chkO root i leaf path).isSome
/-- What is handed back. -/
noncomputable def chkV (r : Option Wd) : Value := .tuple #[.agg (wv (r.getD Wd.zero).n), .bool r.isSome]
theorem chkO_no {root : Tot} {i : Int} {leaf : Tot} (path : List Tot) (h : ¬ (1 ≤ root.n ∧ root.n ≤ 64 ∧ 0 ≤ i ∧ i < root.n ∧ leaf.n = 1)) : chkO root i leaf path = none := by
  unfold chkO
  rw [if_neg (fun hh => h (by simpa [chkIn] using hh.1))]
/-- The steps as the document has them. -/
theorem stpF_side : ∀ (f n o i : Nat), n ≤ f → n ≤ 1099511627776 → o ≤ i → (stpF n o n i).map (fun s => if s.l = true then 0 else 1) = side n (i - o) ∧ (stpF n o n i).map (·.n) = sz n (i - o)
  | f, n, o, i, hf, hb, hi => by
    rcases Nat.lt_or_ge n 2 with h2 | h2
    · rw [stpF_one _ _ _ _ (by omega), side_one _ _ (by omega), sz_one _ _ (by omega)]; exact ⟨rfl, rfl⟩
    · have hs := half_sand n h2 hb
      have hp := half_pos n
      obtain ⟨f, rfl⟩ : ∃ g, f = g + 1 := ⟨f - 1, by omega⟩
      by_cases hk : i < o + halfN n
      · rw [stpF_left o n i h2 hb hk, side_left n (i - o) h2 hb (by omega), sz_left n (i - o) h2 hb (by omega)]
        obtain ⟨e1, e2⟩ := stpF_side f (halfN n) o i (by omega) (by omega) hi
        rw [List.map_cons, List.map_cons, e1, e2]
        exact ⟨rfl, rfl⟩
      · rw [stpF_right o n i h2 hb hk, side_right n (i - o) h2 hb (by omega), sz_right n (i - o) h2 hb (by omega)]
        obtain ⟨e1, e2⟩ := stpF_side f (n - halfN n) (o + halfN n) i (by omega) (by omega) (by omega)
        rw [List.map_cons, List.map_cons, e1, e2, ← Nat.sub_sub]
        exact ⟨rfl, rfl⟩
  termination_by f => f
theorem stps_side (n i : Nat) (hb : n ≤ 1099511627776) : (side n i).reverse = (stps n i).map (fun s => if s.l = true then 0 else 1) ∧ (sz n i).reverse = (stps n i).map (·.n) := by
  obtain ⟨e1, e2⟩ := stpF_side n n 0 i (Nat.le_refl _) hb (Nat.zero_le _)
  rw [Nat.sub_zero] at e1 e2
  unfold stps
  rw [List.map_reverse, List.map_reverse, e1, e2]
  exact ⟨rfl, rfl⟩
end Go.Proofs.Ytnhcamklammcdaa
/- Each leaf's path checks. No program in sight. -/
namespace Go.Proofs.Ytnhcamklammcdaa
set_option linter.unusedVariables false
set_option linter.unusedSimpArgs false
open Go.RowKit
set_option maxRecDepth 100000
theorem stp_path_len (n o i : Nat) (m : List Tot) (hb : n ≤ 1099511627776) (hm : m.length = n) (ho : o ≤ i) : (stpF n o n i).reverse.length = (pathT m (i - o)).length := by
  have h := (stpF_side n n o i (Nat.le_refl _) hb ho).1
  have h2 := congrArg List.length h
  rw [List.length_map] at h2
  rw [List.length_reverse, h2, pathT_len m (i - o) (by omega), hm]
theorem wsum_take_le (m : List Tot) (k : Nat) : wsum (m.take k) ≤ wsum m := by
  conv => rhs; rw [← List.take_append_drop k m, wsum_append]
  omega
theorem wsum_drop_le (m : List Tot) (k : Nat) : wsum (m.drop k) ≤ wsum m := by
  conv => rhs; rw [← List.take_append_drop k m, wsum_append]
  omega
theorem path_climb : ∀ (f n o i : Nat) (m : List Tot), n ≤ f → 1 ≤ n → n ≤ 1099511627776 → m.length = n → o ≤ i → i < o + n → Ones m → wsum m < B256 → ∀ x, m[i - o]? = some x →
    climbT (stpF n o n i).reverse (pathT m (i - o)) (some (x, Wd.zero)) = some (allT m, Wd.of (wsum (m.take (i - o))))
  | 0, n, o, i, m, hf, h1, _, _, _, _, _, _, _, _ => by omega
  | f + 1, n, o, i, m, hf, h1, hb, hm, ho, hi, hon, hw, x, hx => by
    rcases Nat.lt_or_ge n 2 with h2 | h2
    · obtain ⟨y, rfl⟩ : ∃ y, m = [y] := List.length_eq_one_iff.1 (by omega)
      have e0 : i - o = 0 := by omega
      rw [e0] at hx ⊢
      simp only [List.getElem?_cons_zero, Option.some.injEq] at hx
      subst hx
      rw [stpF_one _ _ _ _ (by omega), pathT_one _ _ (by simp), allT_one]
      have : Wd.of 0 = Wd.zero := Wd.ext' (by rw [of_val b256_pos]; rfl)
      simp [climbT, wsum, this]
    · have hs := half_sand n h2 hb
      have hp := half_pos n
      obtain ⟨k, hk⟩ : ∃ k, halfN n = k := ⟨_, rfl⟩
      have hk2 : halfN m.length = k := by rw [hm, hk]
      have l1 : (m.take k).length = k := by rw [List.length_take]; omega
      have l2 : (m.drop k).length = n - k := by rw [List.length_drop, hm]
      have hall : allT m = Tot.join (allT (m.take k)) (allT (m.drop k)) := by rw [allT_cut m (by omega) (by omega), hk2]
      rw [hk] at hs hp
      obtain ⟨n1, w1⟩ := allT_nw k (m.take k) (by omega) (by omega) (by omega) (hon.take k)
      obtain ⟨n2, w2⟩ := allT_nw (n - k) (m.drop k) (by omega) (by omega) (by omega) (hon.drop k)
      rw [l1] at n1
      rw [l2] at n2
      have hsum : wsum (m.take k) + wsum (m.drop k) = wsum m := by rw [← wsum_append, List.take_append_drop]
      rw [Nat.mod_eq_of_lt (by omega)] at w1 w2
      by_cases hik : i - o < k
      · have hst := stpF_left o n i h2 hb (by rw [hk]; omega)
        have hpt := pathT_left m (i - o) (by omega) (by omega) (by rw [hk2]; exact hik)
        rw [hk] at hst
        rw [hk2] at hpt
        rw [hst, List.reverse_cons, hpt, climbT_snoc _ _ _ _ _ (stp_path_len k o i (m.take k) (by omega) l1 ho),
          path_climb f k o i (m.take k) (by omega) hp (by omega) l1 ho (by omega) (hon.take k) (by have := wsum_take_le m k; omega) x (by rw [List.getElem?_take, if_pos hik]; exact hx)]
        simp only [Option.bind_some, climb1]
        rw [if_pos ⟨by unfold Wd.addOk; rw [w1, w2, hsum]; exact decide_eq_true hw, n2⟩, if_pos trivial, ← hall, List.take_take, Nat.min_eq_left (by omega)]
      · have hst := stpF_right o n i h2 hb (by rw [hk]; omega)
        have hpt := pathT_right m (i - o) (by omega) (by omega) (by rw [hk2]; exact hik)
        rw [hk] at hst
        rw [hk2] at hpt
        have e1 : i - o - k = i - (o + k) := by omega
        rw [hst, List.reverse_cons, hpt, e1, climbT_snoc _ _ _ _ _ (stp_path_len (n - k) (o + k) i (m.drop k) (by omega) l2 (by omega)),
          path_climb f (n - k) (o + k) i (m.drop k) (by omega) (by omega) (by omega) l2 (by omega) (by omega) (hon.drop k) (by have := wsum_drop_le m k; omega) x (by rw [List.getElem?_drop, show k + (i - (o + k)) = i - o by omega]; exact hx)]
        simp only [Option.bind_some, climb1]
        rw [if_pos ⟨by unfold Wd.addOk; rw [w1, w2, Nat.add_comm, hsum]; exact decide_eq_true hw, n1⟩, if_neg (by decide), ← hall]
        have et : wsum (m.take (i - o)) = wsum ((m.drop k).take (i - (o + k))) + wsum (m.take k) := by
          have : m.take (i - o) = m.take k ++ (m.drop k).take (i - (o + k)) := by
            rw [show i - o = k + (i - (o + k)) by omega, List.take_add]
            try rfl
            try (rw [show k + (i - (o + k)) - k = i - (o + k) by omega])
          rw [this, wsum_append]; omega
        congr 1
        refine Prod.ext rfl (Wd.ext' ?_)
        have hle := wsum_take_le (m.drop k) (i - (o + k))
        have hle2 := wsum_take_le m (i - o)
        rw [Wd.add_n, of_val (by omega), of_val (by omega), w1, et, Nat.mod_eq_of_lt (by omega)]
theorem path_chk (l : List Tot) (i : Nat) (h1 : l.length ≤ 64) (hi : i < l.length) (hon : Ones l) (hw : wsum l < B256) (x : Tot) (hx : l[i]? = some x) :
    chkO (allT l) i x (pathT l i) = some (Wd.of (wsum (l.take i))) := by
  have hn := (allT_nw l.length l (Nat.le_refl _) (by omega) (by omega) hon).1
  have hc := path_climb l.length l.length 0 i l (Nat.le_refl _) (by omega) (by omega) rfl (Nat.zero_le _) (by omega) hon hw x (by simpa using hx)
  have hl := stp_path_len l.length 0 i l (by omega) rfl (Nat.zero_le _)
  rw [Nat.sub_zero] at hc hl
  have hxn : x.n = 1 := hon x (List.mem_of_getElem? hx)
  unfold chkO
  rw [hn, Int.toNat_natCast, Int.toNat_natCast, show stps l.length i = (stpF l.length 0 l.length i).reverse from rfl, if_pos ⟨decide_eq_true (by rw [hn]; omega), hl⟩, hc]
  simp [(Tot.eq_iff (allT l) (allT l)).2 rfl]
end Go.Proofs.Ytnhcamklammcdaa
/- A slice that is built of three elements of many cells. -/
namespace Go.Proofs.Ytnhcamklammcdaa
set_option linter.unusedVariables false
set_option linter.unusedSimpArgs false
open Go.RowKit
theorem fillS_one {S : Nat} {C D : Array Value} (k : Nat) (rest : List (Nat × Value)) (hC : C.size = S) (hD : k * S + S ≤ D.size) :
    ∃ D' : Array Value, D'.toList = D.toList.take (k * S) ++ C.toList ++ D.toList.drop (k * S + S) ∧ D'.size = D.size ∧ Instr.fill (fun i => some (i * S, S)) D ((k, .agg C) :: rest) = Instr.fill (fun i => some (i * S, S)) D' rest := by
  have sa : (Value.agg C).cells = C := rfl
  have ea : C.zipIdx = (C.toList.zipIdx).toArray := by cases C; simp
  have h1 := foldl_set C.toList 0 (k * S) D (by simp [hC]; omega)
  obtain ⟨D', hD'⟩ : ∃ D', (C.toList.zipIdx.foldl (fun cs (x : Value × Nat) => cs.setIfInBounds (k * S + x.2) x.1) D) = D' := ⟨_, rfl⟩
  have h2 : D'.toList = D.toList.take (k * S) ++ C.toList ++ D.toList.drop (k * S + S) := by
    rw [← hD']; simpa [hC] using h1
  refine ⟨D', h2, ?_, ?_⟩
  · have := congrArg List.length h2
    simp [hC] at this
    omega
  · rw [Instr.fill]
    simp only [sa, hC]
    rw [if_neg (by simp; omega), ea, List.foldl_toArray]
    exact congrArg (fun z => Instr.fill (fun i => some (i * S, S)) z rest) hD'
theorem fill_three {S : Nat} {C0 C1 C2 D : Array Value} (h0 : C0.size = S) (h1 : C1.size = S) (h2 : C2.size = S) (hD : D.size = 3 * S) :
    Instr.fill (fun i => some (i * S, S)) D [(0, .agg C0), (1, .agg C1), (2, .agg C2)] = some (C0.toList ++ (C1.toList ++ C2.toList)).toArray := by
  have l0 : C0.toList.length = S := by simp [h0]
  have l1 : C1.toList.length = S := by simp [h1]
  have l2 : C2.toList.length = S := by simp [h2]
  obtain ⟨D1, e1, s1, f1⟩ := fillS_one (S := S) (C := C0) (D := D) 0 [(1, .agg C1), (2, .agg C2)] h0 (by omega)
  obtain ⟨D2, e2, s2, f2⟩ := fillS_one (S := S) (C := C1) (D := D1) 1 [(2, .agg C2)] h1 (by omega)
  obtain ⟨D3, e3, s3, f3⟩ := fillS_one (S := S) (C := C2) (D := D2) 2 [] h2 (by omega)
  rw [f1, f2, f3, Instr.fill]
  congr 1
  refine arr_ext ?_
  rw [e3]
  have t1 : D1.toList.take (1 * S) = C0.toList := by
    rw [e1, Nat.zero_mul, List.take_zero, List.nil_append, Nat.one_mul, List.take_left' l0]
  have t2 : D2.toList.take (2 * S) = C0.toList ++ C1.toList := by
    rw [e2, t1, List.take_left' (by rw [List.length_append, l0, l1]; omega)]
  have t3 : D2.toList.drop (2 * S + S) = [] := List.drop_of_length_le (by have : D2.toList.length = 3 * S := by simp [s2, s1, hD]
                                                                          omega)
  rw [t2, t3, List.append_nil, List.append_assoc]
theorem run_buildSlice3 {tt e : TypeId} {i : TypeInfo} {S : Nat} {C0 C1 C2 Z : Array Value} (ht : Try.prog.underlying tt = some (.slice e)) (hi : Try.prog.info? e = some i) (hz : i.zero = some (.agg Z)) (hs : i.size = S) (h0 : C0.size = S) (h1 : C1.size = S) (h2 : C2.size = S) (hp : 0 < S) (hS : S ≤ 1000) (w : World) :
    (Instr.buildSlice tt 3 #[(0, .agg C0), (1, .agg C1), (2, .agg C2)]).run Try.prog w = .ok (.slice (some ⟨w.heap.size, 0, none⟩) 3 3) (w.alloc (.cells (C0.toList ++ (C1.toList ++ C2.toList)).toArray e)) := by
  have hsz : (sizeOf e).run Try.prog w = .ok S w := by simp [sizeOf, typeInfo, hi, hs]
  have hzv : (zeroValue e).run Try.prog w = .ok (.agg Z) w := by simp [zeroValue, typeInfo, hi, hz]
  have h24 : ¬ (3 * S > 2 ^ 24) := by omega
  have hn0 : ¬ (3 * S = 0) := by omega
  unfold Instr.buildSlice
  simp only [Sem.run_bind, run_underlying ht w, Result.andThen_ok, hsz, h24, hn0, if_false, hzv, Sem.run_pure]
  rw [fill_three h0 h1 h2 (by simp)]
  simp [newRow]
end Go.Proofs.Ytnhcamklammcdaa
