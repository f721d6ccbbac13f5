/- What the statements of this chapter rest on, part 4. Conditions: none. -/
import Derived.OwnWalk
import Derived.Laws.Bits64b
import Derived.Test.YtommbfgagalckaaRows
import Derived.Laws.Externs
import Derived.DeepKeys
import Derived.Lib.BitFns
import Derived.Deep.Light
import Derived.Test.YtommbfgagalckaaM3
/- bin.Put. -/
namespace Go.Proofs.Ytommbfgagalckaa
set_option linter.unusedVariables false
set_option linter.unusedSimpArgs false
open Go.RowKit
set_option maxRecDepth 100000
/-- A number's bytes, the greatest first. -/
def putL (n size : Nat) : List Nat := (List.range size).map fun i => n / 256 ^ (size - 1 - i) % 256
theorem putL_len (n size : Nat) : (putL n size).length = size := by simp [putL]
theorem putL_lt (n size : Nat) : ∀ c ∈ putL n size, c < 256 := by
  intro c hc
  obtain ⟨i, _, rfl⟩ := List.mem_map.1 hc
  exact Nat.mod_lt _ (by omega)
/-- .. behind 'k' steps. -/
def putK (n size k : Nat) : List Nat := (List.range size).map fun i => if size ≤ i + k then n / 256 ^ (size - 1 - i) % 256 else 0
theorem putK_len (n size k : Nat) : (putK n size k).length = size := by simp [putK]
theorem putK_0 (n size : Nat) : putK n size 0 = zeros size := by
  unfold putK zeros
  apply List.ext_getElem
  · simp
  · intro i h1 h2
    simp at h1
    simp
    omega
theorem putK_all (n size : Nat) : putK n size size = putL n size := by
  unfold putK putL
  apply List.map_congr_left
  intro i hi
  rw [if_pos (by omega)]
theorem putK_step (n size k : Nat) (hk : k < size) : (putK n size k).set (size - 1 - k) (n / 256 ^ k % 256) = putK n size (k + 1) := by
  apply List.ext_getElem
  · simp [putK_len]
  · intro i h1 h2
    rw [List.length_set, putK_len] at h1
    rw [List.getElem_set]
    simp only [putK, List.getElem_map, List.getElem_range]
    by_cases he : size - 1 - k = i
    · rw [if_pos he, if_pos (by omega), show size - 1 - i = k by omega]
    · rw [if_neg he]
      by_cases h3 : size ≤ i + k
      · rw [if_pos h3, if_pos (by omega)]
      · rw [if_neg h3, if_neg (by omega)]
theorem bys_set (l : List Nat) (i x : Nat) : (bys l).set i (.int .u8 (x : Int)) = bys (l.set i x) := by simp [bys, List.map_set]
set_option maxRecDepth 100000 in
set_option maxHeartbeats 3200000 in
theorem put_w (n size : Nat) (hn : n < 18446744073709551616) (hs : size ≤ 8) (w : World) :
    Calls Try.prog 31 #[.int .u64 (n : Int), .int .i64 (size : Int)] w fun e w' => ∃ cap, e = .returned (.slice (some ⟨w.heap.size, 0, none⟩) size cap) ∧ OwnR w' w.heap.size 5 (.slice (some ⟨w.heap.size, 0, none⟩) size cap) (bys (putL n size)) ∧ Grew w w' := by
  have hsI : (size : Int) ≤ 8 := by omega
  have hs2 : size ≤ 1099511627776 := by omega
  go_enter Try.func31, Try.ntmps31
  go_wp2
  have o0 := own_alloc w w.heap.size 5 (bys (zeros size)) (Nat.le_refl _) (by rw [bys_len, zeros_len]; simp [maxLen]; omega)
  rw [← putK_0 n, bys_len, putK_len] at o0
  have hz : w.alloc (.cells (bys (zeros size)).toArray 5) = w.alloc (.cells (bys (putK n size 0)).toArray 5) := by rw [putK_0]
  rw [hz]
  have O0 := Lib.hid o0
  have G0 := Lib.hid (show Grew w (w.alloc (.cells (bys (putK n size 0)).toArray 5)) from (by repeat (first | with_reducible exact Grew.refl _ | with_reducible apply Grew.alloc | with_reducible apply Grew.grow | with_reducible apply Grew.drew | with_reducible apply Grew.drewN)))
  obtain ⟨X, hX⟩ : ∃ X, w.alloc (.cells (bys (putK n size 0)).toArray 5) = X := ⟨_, rfl⟩
  rw [hX] at O0 G0 ⊢
  clear o0 hz hX
  go_loopw [16] (fun i wr => ∃ k : Nat, k ≤ size ∧ i = .int .i64 k ∧ OwnR wr w.heap.size 5 (.slice (some ⟨w.heap.size, 0, none⟩) size size) (bys (putK n size k)) ∧ Grew w wr) (fun i _ => size - (intOf i).toNat)
  case atStart => exact ⟨0, by omega, rfl, O0.out, G0.out⟩
  case round =>
    obtain ⟨k, hk, rfl, ho, hg⟩ := hrel
    by_cases hks : k < size
    · have hlt : (k : Int) < (size : Int) := by omega
      have c1 := own_cell ho (size - 1 - k) (by rw [bys_len, putK_len]; omega)
      have f1 := own_frozen ho (size - 1 - k)
      have hgs : w.heap.size < wr.heap.size := (ho.block _ rfl).2
      have hidx : (size : Int) - 1 - (k : Int) = ((size - 1 - k : Nat) : Int) := by omega
      have HO := Lib.hid ho
      have HG := Lib.hid hg
      clear ho hg O0 G0
      go_wp2
      have hv : (n : Int) / 2 ^ (8 * k) % 256 = ((n / 256 ^ k % 256 : Nat) : Int) := by
        rw [show (256 : Nat) ^ k = 2 ^ (8 * k) by rw [Nat.pow_mul]]
        push_cast
        rfl
      have s1 := own_stored HO.out (size - 1 - k) (.int .u8 ((n / 256 ^ k % 256 : Nat) : Int))
      rw [bys_set, putK_step n size k hks] at s1
      rw [hv]
      exact ⟨⟨k + 1, by omega, by go_num, s1.1, HG.out.grown s1.2 (fun z hz => by cases hz; exact Nat.le_refl _)⟩, by simp only [intOf]; omega⟩
    · obtain rfl : k = size := by omega
      have hge : ¬ ((k : Int) < (k : Int)) := by omega
      rw [putK_all] at ho
      have HO := Lib.hid ho
      have HG := Lib.hid hg
      clear ho hg O0 G0 hks hk
      go_wp2
      go_ret
      exact ⟨_, rfl, HO.out, HG.out⟩
/-- Any size that is none. -/
theorem put_out (n : Nat) (size : Int) (hn : n < 18446744073709551616) (hs : size < 0 ∨ 8 < size) (w : World) : Calls Try.prog 31 #[.int .u64 (n : Int), .int .i64 size] w fun e w' => e = .returned (.slice none 0 0) ∧ Grew w w' := by
  have h : size < 0 ∨ (¬ size < 0 ∧ 8 < size) := by omega
  clear hs
  rcases h with h | ⟨h, h2⟩
  all_goals
    go_enter Try.func31, Try.ntmps31
    go_wp2
    go_ret
    exact ⟨rfl, Grew.refl _⟩
/-- The number of bytes. -/
def numL (l : List Nat) : Nat := l.foldl (fun n c => n * 256 + c) 0
theorem numL_snoc (l : List Nat) (c : Nat) : numL (l ++ [c]) = numL l * 256 + c := by simp [numL]
theorem numL_lt : ∀ (n : Nat) (l : List Nat), l.length = n → (∀ c ∈ l, c < 256) → numL l < 256 ^ n
  | 0, l, hl, _ => by
    obtain rfl : l = [] := List.length_eq_zero_iff.1 hl
    simp [numL]
  | n + 1, l, hl, h => by
    obtain ⟨l', c, rfl⟩ : ∃ l' c, l = l' ++ [c] := ⟨l.dropLast, l.getLast (by rintro rfl; simp at hl), (List.dropLast_concat_getLast _).symm⟩
    rw [List.length_append, List.length_singleton] at hl
    have h1 := numL_lt n l' (by omega) fun x hx => h x (by simp [hx])
    have h2 := h c (by simp)
    rw [numL_snoc, Nat.pow_succ]
    omega
end Go.Proofs.Ytommbfgagalckaa
/- The document's Put. -/
namespace Go.Proofs.Ytommbfgagalckaa
set_option linter.unusedVariables false
set_option linter.unusedSimpArgs false
open Go.RowKit
set_option maxRecDepth 100000
set_option maxHeartbeats 3200000 in
theorem rput_w (n size : Nat) (hn : n < 18446744073709551616) (hs : size ≤ 8) (w : World) :
    Calls Try.prog 47 #[.int .u64 (n : Int), .int .i64 (size : Int)] w fun e w' => ∃ cap, e = .returned (.slice (some ⟨w.heap.size, 0, none⟩) size cap) ∧ OwnR w' w.heap.size 5 (.slice (some ⟨w.heap.size, 0, none⟩) size cap) (bys (putL n size)) ∧ Grew w w' := by
  have hsI : (size : Int) ≤ 8 := by omega
  have hs2 : size ≤ 1099511627776 := by omega
  have h8 : ¬ (8 : Int) < (size : Int) := by omega
  go_enter Try.func47, Try.ntmps47
  go_wp2
  have o0 := own_alloc w w.heap.size 5 (bys (zeros size)) (Nat.le_refl _) (by rw [bys_len, zeros_len]; simp [maxLen]; omega)
  rw [← putK_0 n, bys_len, putK_len] at o0
  have hz : w.alloc (.cells (bys (zeros size)).toArray 5) = w.alloc (.cells (bys (putK n size 0)).toArray 5) := by rw [putK_0]
  rw [hz]
  have O0 := Lib.hid o0
  have G0 := Lib.hid (show Grew w (w.alloc (.cells (bys (putK n size 0)).toArray 5)) from (by repeat (first | with_reducible exact Grew.refl _ | with_reducible apply Grew.alloc | with_reducible apply Grew.grow | with_reducible apply Grew.drew | with_reducible apply Grew.drewN)))
  obtain ⟨X, hX⟩ : ∃ X, w.alloc (.cells (bys (putK n size 0)).toArray 5) = X := ⟨_, rfl⟩
  rw [hX] at O0 G0 ⊢
  clear o0 hz hX
  go_loopw [0, 6] (fun a i wr => ∃ k j : Nat, k + j = size ∧ a = .int .u64 ((n / 256 ^ k : Nat) : Int) ∧ i = .int .i64 ((j : Int) - 1) ∧ OwnR wr w.heap.size 5 (.slice (some ⟨w.heap.size, 0, none⟩) size size) (bys (putK n size k)) ∧ Grew w wr) (fun _ i _ => (intOf i + 1).toNat)
  case atStart => exact ⟨0, size, by omega, by rw [Nat.pow_zero, Nat.div_one], rfl, O0.out, G0.out⟩
  case round =>
    obtain ⟨k, j, hk, rfl, rfl, ho, hg⟩ := hrel
    cases j with
    | succ m =>
      rw [show (((m + 1 : Nat) : Int) - 1) = (m : Int) by omega]
      have hm : size - 1 - k = m := by omega
      have c1 := own_cell ho m (by rw [bys_len, putK_len]; omega)
      have f1 := own_frozen ho m
      have hgs : w.heap.size < wr.heap.size := (ho.block _ rfl).2
      have hmI : (m : Int) < (size : Int) := by omega
      have hm0 : (0 : Int) ≤ (m : Int) := by omega
      have hd : n / 256 ^ k / 256 = n / 256 ^ (k + 1) := by rw [Nat.div_div_eq_div_mul, ← Nat.pow_succ]
      have s1 := own_stored ho (size - 1 - k) (.int .u8 ((n / 256 ^ k % 256 : Nat) : Int))
      rw [bys_set, putK_step n size k (by omega), hm] at s1
      have hx : n / 256 ^ k < 18446744073709551616 := Nat.lt_of_le_of_lt (Nat.div_le_self _ _) hn
      obtain ⟨x, hxx⟩ : ∃ x, n / 256 ^ k = x := ⟨_, rfl⟩
      rw [hxx] at hd hx s1 ⊢
      have S1 := Lib.hid s1
      have HD := Lib.hid hd
      have HK := Lib.hid hk
      have HG := Lib.hid hg
      have hxI : (x : Int) < 18446744073709551616 := by omega
      clear ho hg O0 G0 hxx hd s1 hx hm
      go_wp2
      have hv : (x : Int) % 256 = ((x % 256 : Nat) : Int) := by omega
      have hv2 : (x : Int) / 256 = ((x / 256 : Nat) : Int) := by omega
      simp only [hv, hv2, HD.out]
      exact ⟨⟨k + 1, m, by have := HK.out; omega, rfl, by go_num, S1.out.1, HG.out.grown S1.out.2 (fun z hz => by cases hz; exact Nat.le_refl _)⟩, by simp only [intOf]; omega⟩
    | zero =>
      have hge : ¬ ((0 : Int) ≤ ((0 : Nat) : Int) - 1) := by omega
      obtain rfl : k = size := by omega
      rw [putK_all] at ho
      have HO := Lib.hid ho
      have HG := Lib.hid hg
      clear ho hg O0 G0 hk
      go_wp2
      go_ret
      exact ⟨_, rfl, HO.out, HG.out⟩
end Go.Proofs.Ytommbfgagalckaa
/- bin.Get. -/
namespace Go.Proofs.Ytommbfgagalckaa
set_option linter.unusedVariables false
set_option linter.unusedSimpArgs false
open Go.RowKit
def getOk (len : Nat) (at_ size : Int) : Bool := decide (0 ≤ size ∧ size ≤ 8 ∧ 0 ≤ at_ ∧ at_ ≤ (len : Int) ∧ size ≤ (len : Int) - at_)
def getN (l : List Nat) (at_ size : Int) : Nat := if getOk l.length at_ size = true then numL ((l.drop at_.toNat).take size.toNat) else 0
theorem shl_or (x c : Nat) (hc : c < 256) : (x * 256) ||| c = x * 256 + c := by
  have := Nat.two_pow_add_eq_or_of_lt (i := 8) hc x
  rw [show (2 : Nat) ^ 8 * x = x * 256 by omega] at this
  exact this.symm
set_option maxRecDepth 100000 in
set_option maxHeartbeats 3200000 in
theorem get_in (l : List Nat) (p : Option Addr) (c : Nat) (at_ size : Nat) (w : World) (hb : ∀ x ∈ l, x < 256) (hv : Shows w (.slice p l.length c) (bys l)) (hc : l.length ≤ c) (hl : l.length ≤ 1099511627776) (hs : size ≤ 8) (ha : at_ + size ≤ l.length) :
    Calls Try.prog 57 #[.slice p l.length c, .int .i64 (at_ : Int), .int .i64 (size : Int)] w fun e w' => e = .returned (.tuple #[.int .u64 (numL ((l.drop at_).take size) : Nat), .bool true]) ∧ Grew w w' := by
  obtain ⟨N, hN⟩ : ∃ N, l.length = N := ⟨_, rfl⟩
  obtain ⟨m, hm⟩ : ∃ m, (l.drop at_).take size = m := ⟨_, rfl⟩
  have hml : m.length = size := by rw [← hm, List.length_take, List.length_drop]; omega
  have hmb : ∀ x ∈ m, x < 256 := fun x hx => hb x (List.mem_of_mem_drop (List.mem_of_mem_take (by rw [hm]; exact hx)))
  have hget : ∀ k, k < size → m[k]? = l[at_ + k]? := fun k hk => by rw [← hm, List.getElem?_take, if_pos hk, List.getElem?_drop]
  rw [hN] at hv hc hl ha ⊢
  rw [hm]
  clear hm
  have g1 : ¬ (8 : Int) < (size : Int) := by omega
  have g2 : ¬ (N : Int) < (at_ : Int) := by omega
  have g3 : ¬ (N : Int) - (at_ : Int) < (size : Int) := by omega
  have g4 : (at_ : Int) + (size : Int) ≤ (c : Int) := by omega
  have g5 : (at_ : Int) + (size : Int) ≤ 1099511627776 := by omega
  rcases Nat.eq_zero_or_pos N with h0 | h0
  · subst h0
    obtain rfl : at_ = 0 := by omega
    obtain rfl : size = 0 := by omega
    obtain rfl : m = [] := List.length_eq_zero_iff.1 hml
    clear hget hmb hb hv hN
    cases p with
    | none =>
      go_enter Try.func57, Try.ntmps57
      go_wp2
      go_loopw [42, 8] (fun i v wr => i = .int .i64 0 ∧ v = .int .u64 0 ∧ wr = w) (fun _ _ _ => 0)
      case atStart => exact ⟨rfl, rfl, rfl⟩
      case round =>
        obtain ⟨rfl, rfl, rfl⟩ := hrel
        go_wp2
        go_ret2
        exact ⟨rfl, Grew.refl _⟩
    | some a =>
      go_enter Try.func57, Try.ntmps57
      go_wp2
      go_loopw [42, 8] (fun i v wr => i = .int .i64 0 ∧ v = .int .u64 0 ∧ wr = w) (fun _ _ _ => 0)
      case atStart => exact ⟨rfl, rfl, rfl⟩
      case round =>
        obtain ⟨rfl, rfl, rfl⟩ := hrel
        go_wp2
        go_ret2
        exact ⟨rfl, Grew.refl _⟩
  · obtain ⟨b, o, rfl, hbw, hcell⟩ : ∃ b o, p = some ⟨b, o, none⟩ ∧ b < w.heap.size ∧ ∀ j u, (bys l)[j]? = some u → w.cell? ⟨b, o + j, none⟩ = some u := by
      rcases hv with ⟨b, o, c', he, hb, h⟩ | ⟨p', c', he, h0'⟩
      · simp only [Value.slice.injEq] at he
        exact ⟨b, o, he.1, hb, h⟩
      · have := bys_len l; rw [h0'] at this; simp at this; omega
    have hcl : ∀ k, k < size → w.cell? ⟨b, o + (at_ + k), none⟩ = some (.int .u8 ((m.getD k 0 : Nat) : Int)) := fun k hk => by
      refine hcell (at_ + k) _ ?_
      have h1 := hget k hk
      simp only [bys, List.getElem?_map, ← h1, List.getD]
      rw [List.getElem?_eq_getElem (by omega)]
      rfl
    have HC := Lib.hid hcl
    have HMB := Lib.hid hmb
    clear hcl hcell hget hmb hb hv hN
    by_cases hca : c = at_
    · obtain rfl : size = 0 := by omega
      obtain rfl : m = [] := List.length_eq_zero_iff.1 hml
      clear HC HMB
      go_enter Try.func57, Try.ntmps57
      go_wp2
      go_loopw [42, 8] (fun i v wr => i = .int .i64 0 ∧ v = .int .u64 0 ∧ wr = w) (fun _ _ _ => 0)
      case atStart => exact ⟨rfl, rfl, rfl⟩
      case round =>
        obtain ⟨rfl, rfl, rfl⟩ := hrel
        go_wp2
        go_ret2
        exact ⟨rfl, Grew.refl _⟩
    go_enter Try.func57, Try.ntmps57
    go_wp2
    go_loopw [42, 8] (fun i v wr => ∃ k : Nat, k ≤ size ∧ i = .int .i64 k ∧ v = .int .u64 ((numL (m.take k) : Nat) : Int) ∧ wr = w) (fun i _ _ => size - (intOf i).toNat)
    case atStart => exact ⟨0, by omega, rfl, rfl, rfl⟩
    case round =>
      obtain ⟨k, hk, rfl, rfl, rfl⟩ := hrel
      by_cases hks : k < size
      · have hlt : (k : Int) < (size : Int) := by omega
        have hx : m.getD k 0 < 256 := by
          rw [List.getD, List.getElem?_eq_getElem (by omega)]
          exact HMB.out _ (List.getElem_mem _)
        have hn := numL_lt k (m.take k) (by rw [List.length_take]; omega) fun x hx => HMB.out x (List.mem_of_mem_take hx)
        have hst : numL (m.take (k + 1)) = numL (m.take k) * 256 + m.getD k 0 := by
          rw [List.take_add_one, List.getElem?_eq_getElem (by omega), List.getD, List.getElem?_eq_getElem (by omega)]
          exact numL_snoc _ _
        have hc1 := HC.out k hks
        rw [← Nat.add_assoc] at hc1
        have h56 : 256 ^ k ≤ 72057594037927936 := by
          have : 256 ^ k ≤ 256 ^ 7 := Nat.pow_le_pow_right (by omega) (by omega)
          omega
        obtain ⟨x, hxx⟩ : ∃ x, m.getD k 0 = x := ⟨_, rfl⟩
        obtain ⟨n, hnn⟩ : ∃ x, numL (m.take k) = x := ⟨_, rfl⟩
        rw [hxx] at hx hst hc1
        rw [hnn] at hst hn ⊢
        have HST := Lib.hid hst
        have hnb : (n : Int) < 72057594037927936 := by omega
        clear hst hn h56 hxx hnn
        go_wp2
        have hb : bits .or .u64 ((n : Int) * 256) (x : Int) = ((n * 256 + x : Nat) : Int) := by
          have h := bits_or_u64_nat (n * 256) x (by omega) (by omega)
          rw [shl_or n x hx] at h
          rw [← h]
          push_cast
          rfl
        exact ⟨⟨k + 1, by omega, by go_num, by rw [hb, HST.out], trivial⟩, by simp only [intOf]; omega⟩
      · obtain rfl : k = size := by omega
        have hge : ¬ ((k : Int) < (k : Int)) := by omega
        rw [List.take_of_length_le (by omega)]
        clear hk hks
        go_wp2
        go_ret2
        exact ⟨rfl, Grew.refl _⟩
theorem get_out (len c : Nat) (p : Option Addr) (at_ size : Int) (w : World) (hl : len ≤ 1099511627776) (h : getOk len at_ size = false) :
    Calls Try.prog 57 #[.slice p len c, .int .i64 at_, .int .i64 size] w fun e w' => e = .returned (.tuple #[.int .u64 0, .bool false]) ∧ Grew w w' := by
  have h := of_decide_eq_false h
  have h5 : size < 0 ∨ (¬ size < 0 ∧ 8 < size) ∨ (¬ size < 0 ∧ ¬ 8 < size ∧ at_ < 0) ∨ (¬ size < 0 ∧ ¬ 8 < size ∧ ¬ at_ < 0 ∧ (len : Int) < at_) ∨ (¬ size < 0 ∧ ¬ 8 < size ∧ ¬ at_ < 0 ∧ ¬ (len : Int) < at_ ∧ (len : Int) - at_ < size) := by omega
  clear h
  have hlI : (len : Int) ≤ 1099511627776 := by omega
  rcases h5 with h1 | ⟨h1, h2⟩ | ⟨h1, h2, h3⟩ | ⟨h1, h2, h3, h4⟩ | ⟨h1, h2, h3, h4, h5⟩
  all_goals
    go_enter Try.func57, Try.ntmps57
    go_wp2
    go_ret2
    exact ⟨rfl, Grew.refl _⟩
theorem get_w (l : List Nat) (p : Option Addr) (c : Nat) (at_ size : Int) (w : World) (hb : ∀ x ∈ l, x < 256) (hv : Shows w (.slice p l.length c) (bys l)) (hc : l.length ≤ c) (hl : l.length ≤ 1099511627776) :
    Calls Try.prog 57 #[.slice p l.length c, .int .i64 at_, .int .i64 size] w fun e w' => e = .returned (.tuple #[.int .u64 (getN l at_ size : Nat), .bool (getOk l.length at_ size)]) ∧ Grew w w' := by
  cases h : getOk l.length at_ size
  · have hn : getN l at_ size = 0 := by unfold getN; rw [h]; rfl
    rw [hn]
    exact get_out l.length c p at_ size w hl h
  · have hn : getN l at_ size = numL ((l.drop at_.toNat).take size.toNat) := by unfold getN; rw [if_pos h]
    rw [hn]
    have h2 := of_decide_eq_true h
    have := get_in l p c at_.toNat size.toNat w hb hv hc hl (by omega) (by omega)
    rwa [Int.toNat_of_nonneg (by omega), Int.toNat_of_nonneg (by omega)] at this
end Go.Proofs.Ytommbfgagalckaa
/- Numbers as bytes, and back. No program in sight. -/
namespace Go.Proofs.Ytommbfgagalckaa
set_option linter.unusedVariables false
set_option linter.unusedSimpArgs false
open Go.RowKit
theorem putL_succ (n s : Nat) : putL n (s + 1) = putL (n / 256) s ++ [n % 256] := by
  unfold putL
  rw [List.range_succ, List.map_append]
  congr 1
  · refine List.map_congr_left fun i hi => ?_
    have hi : i < s := List.mem_range.1 hi
    rw [show s + 1 - 1 - i = (s - 1 - i) + 1 by omega, Nat.pow_succ, Nat.mul_comm, ← Nat.div_div_eq_div_mul]
  · simp
theorem num_put : ∀ (s n : Nat), numL (putL n s) = n % 256 ^ s
  | 0, n => by simp [putL, numL, Nat.mod_one]
  | s + 1, n => by
    rw [putL_succ, numL_snoc, num_put s, Nat.pow_succ, Nat.mul_comm (256 ^ s) 256, Nat.mod_mul]
    omega
theorem put_num : ∀ (s : Nat) (l : List Nat), l.length = s → (∀ c ∈ l, c < 256) → putL (numL l) s = l
  | 0, l, h, _ => by
    obtain rfl : l = [] := List.length_eq_zero_iff.1 h
    rfl
  | s + 1, l, h, hb => by
    obtain ⟨m, c, rfl⟩ : ∃ m c, l = m ++ [c] := ⟨l.dropLast, l.getLast (by intro h0; rw [h0] at h; simp at h), (List.dropLast_concat_getLast _).symm⟩
    have hc : c < 256 := hb c (by simp)
    rw [putL_succ, numL_snoc, show (numL m * 256 + c) / 256 = numL m by omega, show (numL m * 256 + c) % 256 = c by omega, put_num s m (by simpa using h) (fun x hx => hb x (by simp [hx]))]
theorem num_put_lt {n s : Nat} (h : n < 256 ^ s) : numL (putL n s) = n := by rw [num_put, Nat.mod_eq_of_lt h]
end Go.Proofs.Ytommbfgagalckaa
/- What wide's functions hand back: Of, at, Up, Down. -/
namespace Go.Proofs.Ytommbfgagalckaa
set_option linter.unusedVariables false
set_option linter.unusedSimpArgs false
open Go.RowKit

theorem wv_of {n : Nat} (h : n < 18446744073709551616) : wv n = #[Value.int .u64 n, Value.int .u64 0, Value.int .u64 0, Value.int .u64 0] := by
  have := wv_w4 (a := n) (b := 0) (c := 0) (d := 0) h (by omega) (by omega) (by omega)
  simp only [w4, Nat.mul_zero, Nat.add_zero] at this
  rw [← this]; rfl

set_option maxHeartbeats 400000 in
theorem of_any (n : Nat) (h : n < 18446744073709551616) (w : World) :
    Calls Try.prog 19 #[.int .u64 n] w fun e w' => e = .returned (.agg (wv n)) ∧ Grew w w' := by
  have hw := wv_of h
  go_enter Try.func19, Try.ntmps19
  go_wp2
  refine bodyPost_ret (v := .agg (wv n)) ?_ rfl ⟨rfl, (Grew.refl _).alloc _⟩
  simp [results, Try.results19, go_sem]
  exact hw.symm

theorem atL_of (x : Nat) (i : Nat) (h : i < 4) : atL x i = lb x i := by
  unfold atL; rw [if_neg (by omega)]; rfl

set_option maxHeartbeats 400000 in
theorem at_any (x : Nat) (i : Int) (w : World) :
    Calls Try.prog 62 #[.agg (wv x), .int .i64 i] w fun e w' => e = .returned (.int .u64 (atL x i)) ∧ Grew w w' := by
  unfold wv
  by_cases h0 : i < 0
  · go_enter Try.func62, Try.ntmps62
    go_wp2
    go_ret
    exact ⟨by simp [atL, h0], (Grew.refl _).alloc _⟩
  by_cases h4 : 4 ≤ i
  · go_enter Try.func62, Try.ntmps62
    go_wp2
    go_ret
    exact ⟨by simp [atL, h4], (Grew.refl _).alloc _⟩
  have : i = 0 ∨ i = 1 ∨ i = 2 ∨ i = 3 := by omega
  rcases this with rfl | rfl | rfl | rfl <;> clear h0 h4
  all_goals
    go_enter Try.func62, Try.ntmps62
    go_wp2
    go_ret
    exact ⟨rfl, (Grew.refl _).alloc _⟩

theorem bits_or_u64 (a b : Nat) (ha : a < 18446744073709551616) (hb : b < 18446744073709551616) : bits .or .u64 (a:Int) (b:Int) = ((a ||| b : Nat) : Int) := by
  have hx : a ||| b < 2 ^ 64 := Nat.or_lt_two_pow (by omega) (by omega)
  have h1 : (BitVec.ofInt 64 (a : Int)).toNat = a := by
    rw [BitVec.ofInt_natCast, BitVec.toNat_ofNat]; exact Nat.mod_eq_of_lt (by omega)
  have h2 : (BitVec.ofInt 64 (b : Int)).toNat = b := by
    rw [BitVec.ofInt_natCast, BitVec.toNat_ofNat]; exact Nat.mod_eq_of_lt (by omega)
  show IntKind.u64.wrap ((BitVec.ofInt 64 (a : Int) ||| BitVec.ofInt 64 (b : Int)).toNat : Int) = _
  rw [BitVec.toNat_or, h1, h2, IntKind.wrap_u64]
  omega

theorem upl_bits (x y s : Nat) (hs : s < 64) (hy : y < 18446744073709551616) :
    bits .or .u64 (IntKind.u64.wrap ((x : Int) * 2 ^ s)) ((y : Int) / 2 / 2 ^ (63 - s)) = ((upl x y s : Nat) : Int) := by
  have e1 : IntKind.u64.wrap ((x : Int) * 2 ^ s) = ((x <<< s % 18446744073709551616 : Nat) : Int) := by
    rw [IntKind.wrap_u64, Nat.shiftLeft_eq, Int.natCast_emod, Int.natCast_mul, Int.natCast_pow]; rfl
  have e3 : y >>> (64 - s) = y / 2 / 2 ^ (63 - s) := by
    rw [show 64 - s = 1 + (63 - s) by omega, Nat.shiftRight_add, Nat.shiftRight_eq_div_pow, Nat.shiftRight_eq_div_pow]
  have e2 : ((y : Int) / 2 / 2 ^ (63 - s)) = ((y >>> (64 - s) : Nat) : Int) := by
    rw [e3, Int.natCast_ediv, Int.natCast_ediv, Int.natCast_pow]; rfl
  rw [e1, e2, bits_or_u64 _ _ (Nat.mod_lt _ (by decide)) (Nat.lt_of_le_of_lt (Nat.shiftRight_le _ _) hy)]
  rfl

theorem dnl_bits (x y s : Nat) (hs : s < 64) (hx : x < 18446744073709551616) :
    bits .or .u64 ((x : Int) / 2 ^ s) (IntKind.u64.wrap (IntKind.u64.wrap ((y : Int) * 2) * 2 ^ (63 - s))) = ((dnl x y s : Nat) : Int) := by
  have e1 : ((x : Int) / 2 ^ s) = ((x >>> s : Nat) : Int) := by
    rw [Nat.shiftRight_eq_div_pow, Int.natCast_ediv, Int.natCast_pow]; rfl
  have e2 : IntKind.u64.wrap (IntKind.u64.wrap ((y : Int) * 2) * 2 ^ (63 - s)) = ((y <<< (64 - s) % 18446744073709551616 : Nat) : Int) := by
    rw [IntKind.wrap_u64, IntKind.wrap_u64, show 64 - s = 1 + (63 - s) by omega, Nat.shiftLeft_add, Nat.shiftLeft_eq, Nat.shiftLeft_eq, Int.natCast_emod, Int.natCast_mul, Int.natCast_pow, Int.natCast_mul, Int.mul_emod, Int.emod_emod, ← Int.mul_emod]
    rfl
  rw [e1, e2, bits_or_u64 _ _ (Nat.lt_of_le_of_lt (Nat.shiftRight_le _ _) hx) (Nat.mod_lt _ (by decide))]
  rfl

theorem up_cells (x n : Nat) (hx : x < B256) :
    #[Value.int .u64 (upl (atL x (-((n : Int) / 64))) (atL x (-((n : Int) / 64) - 1)) (n % 64)),
      Value.int .u64 (upl (atL x (1 - (n : Int) / 64)) (atL x (1 - (n : Int) / 64 - 1)) (n % 64)),
      Value.int .u64 (upl (atL x (2 - (n : Int) / 64)) (atL x (2 - (n : Int) / 64 - 1)) (n % 64)),
      Value.int .u64 (upl (atL x (3 - (n : Int) / 64)) (atL x (3 - (n : Int) / 64 - 1)) (n % 64))] = wv (x <<< n) := by
  have e : ((n / 64 : Nat) : Int) = (n : Int) / 64 := rfl
  have h0 := up_part x n 0 hx (by omega)
  have h1 := up_part x n 1 hx (by omega)
  have h2 := up_part x n 2 hx (by omega)
  have h3 := up_part x n 3 hx (by omega)
  rw [e] at h0 h1 h2 h3
  unfold wv
  rw [h0, h1, h2, h3]
  simp

theorem down_cells (x n : Nat) (hx : x < B256) :
    #[Value.int .u64 (dnl (atL x ((n : Int) / 64)) (atL x ((n : Int) / 64 + 1)) (n % 64)),
      Value.int .u64 (dnl (atL x (1 + (n : Int) / 64)) (atL x (1 + (n : Int) / 64 + 1)) (n % 64)),
      Value.int .u64 (dnl (atL x (2 + (n : Int) / 64)) (atL x (2 + (n : Int) / 64 + 1)) (n % 64)),
      Value.int .u64 (dnl (atL x (3 + (n : Int) / 64)) (atL x (3 + (n : Int) / 64 + 1)) (n % 64))] = wv (x >>> n) := by
  have e : ((n / 64 : Nat) : Int) = (n : Int) / 64 := rfl
  have h0 := down_part x n 0 hx (by omega)
  have h1 := down_part x n 1 hx (by omega)
  have h2 := down_part x n 2 hx (by omega)
  have h3 := down_part x n 3 hx (by omega)
  rw [e] at h0 h1 h2 h3
  unfold wv
  rw [h0, h1, h2, h3]
  simp

set_option maxRecDepth 100000 in
set_option maxHeartbeats 1600000 in
theorem up_lt (x n : Nat) (hx : x < B256) (w : World) (hi : n < 256) :
    Calls Try.prog 39 #[.agg (wv x), .int .i64 n] w fun e w' => e = .returned (.agg (wv (x <<< n))) ∧ Grew w w' := by
  have hb := fun u v (hv : v < 18446744073709551616) => upl_bits u v (n % 64) (by omega) hv
  have hl := atL_lt x
  have H := Lib.hid hx
  clear hx
  go_enter Try.func39, Try.ntmps39
  go_wp2
  refine wp_loop_rounds 5 ?_
  iterate 4
    rw [rounds_succ]
    go_wp2
    first | refine wp_region_pure_tail_g 19 (by kernel_rfl) (by kernel_rfl) (by intro _ _ _ d _ h; cases d <;> exact h) ?_ | refine wp_region_pure_tail 19 (by kernel_rfl) (by kernel_rfl) (by intro _ _ _ d _ h; cases d <;> exact h) ?_
    simp only [List.take_succ_cons, List.take_zero, List.drop_succ_cons, List.drop_zero]
    repeat (go_big_quiet_step ((go_at_call 62; exact Calls.pure_of (at_any _ _ _))))
    refine wpQuiet_nil ?_
    intro _ hw'
    obtain ⟨δ1, hw''⟩ := hw'
    subst hw''
    go_wp2
  rw [rounds_succ]
  go_wp2
  have HH := up_cells x n H.out
  refine bodyPost_ret (v := .agg (wv (x <<< n))) ?_ rfl ⟨rfl, by repeat (first | exact Grew.refl _ | apply Grew.alloc | apply Grew.grow)⟩
  simp [results, Try.results39, go_sem]
  exact HH

set_option maxRecDepth 100000 in
set_option maxHeartbeats 1600000 in
theorem down_lt (x n : Nat) (hx : x < B256) (w : World) (hi : n < 256) :
    Calls Try.prog 44 #[.agg (wv x), .int .i64 n] w fun e w' => e = .returned (.agg (wv (x >>> n))) ∧ Grew w w' := by
  have hb := fun u v (hu : u < 18446744073709551616) => dnl_bits u v (n % 64) (by omega) hu
  have hl := atL_lt x
  have H := Lib.hid hx
  clear hx
  go_enter Try.func44, Try.ntmps44
  go_wp2
  refine wp_loop_rounds 5 ?_
  iterate 4
    rw [rounds_succ]
    go_wp2
    first | refine wp_region_pure_tail_g 19 (by kernel_rfl) (by kernel_rfl) (by intro _ _ _ d _ h; cases d <;> exact h) ?_ | refine wp_region_pure_tail 19 (by kernel_rfl) (by kernel_rfl) (by intro _ _ _ d _ h; cases d <;> exact h) ?_
    simp only [List.take_succ_cons, List.take_zero, List.drop_succ_cons, List.drop_zero]
    repeat (go_big_quiet_step ((go_at_call 62; exact Calls.pure_of (at_any _ _ _))))
    refine wpQuiet_nil ?_
    intro _ hw'
    obtain ⟨δ1, hw''⟩ := hw'
    subst hw''
    go_wp2
  rw [rounds_succ]
  go_wp2
  have HH := down_cells x n H.out
  refine bodyPost_ret (v := .agg (wv (x >>> n))) ?_ rfl ⟨rfl, by repeat (first | exact Grew.refl _ | apply Grew.alloc | apply Grew.grow)⟩
  simp [results, Try.results44, go_sem]
  exact HH

end Go.Proofs.Ytommbfgagalckaa
/- wide's Add, Sub. -/
namespace Go.Proofs.Ytommbfgagalckaa
set_option linter.unusedVariables false
set_option linter.unusedSimpArgs false
open Go.RowKit

def addEntry : Array Value → Sem Value := fun args => do
  let (x, y, c) ← Extern.MathBitsCarry.three "Add64" args
  pure (Extern.MathBitsCarry.pair ((x + y + c) % Extern.MathBitsCarry.m64) ((x + y + c) / Extern.MathBitsCarry.m64))
def subEntry : Array Value → Sem Value := fun args => do
  let (x, y, b) ← Extern.MathBitsCarry.three "Sub64" args
  pure (Extern.MathBitsCarry.pair ((x + Extern.MathBitsCarry.m64 - y - b) % Extern.MathBitsCarry.m64) (if x < y + b then 1 else 0))
theorem run_addEntry (x y c : Nat) (hc : c ≤ 1) (w : World) :
    (addEntry #[.int .u64 x, .int .u64 y, .int .u64 c]).run Try.prog w = .ok (.tuple #[.int .u64 ((x + y + c) % 18446744073709551616 : Nat), .int .u64 ((x + y + c) / 18446744073709551616 : Nat)]) w := by
  have : c = 0 ∨ c = 1 := by omega
  rcases this with rfl | rfl <;> rfl
theorem run_subEntry (x y c : Nat) (hc : c ≤ 1) (w : World) :
    (subEntry #[.int .u64 x, .int .u64 y, .int .u64 c]).run Try.prog w = .ok (.tuple #[.int .u64 ((x + 18446744073709551616 - y - c) % 18446744073709551616 : Nat), .int .u64 (if x < y + c then 1 else 0 : Nat)]) w := by
  have : c = 0 ∨ c = 1 := by omega
  rcases this with rfl | rfl <;> rfl
theorem call_add64 (x y c : Nat) (hc : c ≤ 1) (w : World) : (callFunc 64 #[.int .u64 x, .int .u64 y, .int .u64 c]).run Try.prog w =
    .ok (.value (.tuple #[.int .u64 ((x + y + c) % 18446744073709551616 : Nat), .int .u64 ((x + y + c) / 18446744073709551616 : Nat)])) w := by
  rw [run_callFunc_extern Try.func64 (by kernel_rfl) (by kernel_rfl) (by kernel_rfl) (e := addEntry) (by kernel_rfl), run_addEntry x y c hc]
  rfl
theorem call_sub64 (x y c : Nat) (hc : c ≤ 1) (w : World) : (callFunc 79 #[.int .u64 x, .int .u64 y, .int .u64 c]).run Try.prog w =
    .ok (.value (.tuple #[.int .u64 ((x + 18446744073709551616 - y - c) % 18446744073709551616 : Nat), .int .u64 (if x < y + c then 1 else 0 : Nat)])) w := by
  rw [run_callFunc_extern Try.func79 (by kernel_rfl) (by kernel_rfl) (by kernel_rfl) (e := subEntry) (by kernel_rfl), run_subEntry x y c hc]
  rfl

/-- What goes into the next part. -/
def cy (x y c : Nat) : Nat := (x + y + c) / 18446744073709551616
def sm (x y c : Nat) : Nat := (x + y + c) % 18446744073709551616
theorem cy_le (x y c : Nat) (hx : x < 18446744073709551616) (hy : y < 18446744073709551616) (hc : c ≤ 1) : cy x y c ≤ 1 := by unfold cy; omega
def cys (x y : Nat) : Nat → Nat
  | 0 => 0
  | i + 1 => cy (lb x i) (lb y i) (cys x y i)
theorem cys_le (x y : Nat) : ∀ i, cys x y i ≤ 1
  | 0 => Nat.zero_le _
  | i + 1 => cy_le _ _ _ (lb_lt _ _) (lb_lt _ _) (cys_le x y i)
def sms (x y i : Nat) : Nat := sm (lb x i) (lb y i) (cys x y i)
theorem sm_spec (x y c : Nat) : x + y + c = sm x y c + 18446744073709551616 * cy x y c ∧ sm x y c < 18446744073709551616 := by
  unfold sm cy; omega
theorem add_parts (x y : Nat) (hx : x < B256) (hy : y < B256) :
    x + y = w4 (sms x y 0) (sms x y 1) (sms x y 2) (sms x y 3) + B256 * cys x y 4 := by
  have h0 := (sm_spec (lb x 0) (lb y 0) (cys x y 0)).1
  have h1 := (sm_spec (lb x 1) (lb y 1) (cys x y 1)).1
  have h2 := (sm_spec (lb x 2) (lb y 2) (cys x y 2)).1
  have h3 := (sm_spec (lb x 3) (lb y 3) (cys x y 3)).1
  have ex := w4_lb x
  have ey := w4_lb y
  rw [Nat.mod_eq_of_lt hx] at ex
  rw [Nat.mod_eq_of_lt hy] at ey
  have b0 : cys x y 0 = 0 := rfl
  have b1 : cys x y 1 = cy (lb x 0) (lb y 0) (cys x y 0) := rfl
  have b2 : cys x y 2 = cy (lb x 1) (lb y 1) (cys x y 1) := rfl
  have b3 : cys x y 3 = cy (lb x 2) (lb y 2) (cys x y 2) := rfl
  have b4 : cys x y 4 = cy (lb x 3) (lb y 3) (cys x y 3) := rfl
  unfold w4 at *
  unfold sms
  unfold B256 at *
  omega
theorem add_cells (x y : Nat) (hx : x < B256) (hy : y < B256) : #[Value.int .u64 (sms x y 0), Value.int .u64 (sms x y 1), Value.int .u64 (sms x y 2), Value.int .u64 (sms x y 3)] = wv (x + y) := by
  have h := add_parts x y hx hy
  refine (wv_w4 (a := sms x y 0) (b := sms x y 1) (c := sms x y 2) (d := sms x y 3) (sm_spec _ _ _).2 (sm_spec _ _ _).2 (sm_spec _ _ _).2 (sm_spec _ _ _).2).trans (wv_inj.2 ?_)
  rw [h]
  exact (Nat.add_mul_mod_self_left _ _ _).symm
theorem add_over (x y : Nat) (hx : x < B256) (hy : y < B256) : ((cys x y 4 : Nat) : Int) = 0 ↔ x + y < B256 := by
  have h := add_parts x y hx hy
  have hb := cys_le x y 4
  have hd : w4 (sms x y 0) (sms x y 1) (sms x y 2) (sms x y 3) < B256 := w4_lt (sm_spec _ _ _).2 (sm_spec _ _ _).2 (sm_spec _ _ _).2 (sm_spec _ _ _).2
  generalize w4 _ _ _ _ = d at *
  unfold B256 at *
  omega

def bw (x y c : Nat) : Nat := if x < y + c then 1 else 0
def df (x y c : Nat) : Nat := (x + 18446744073709551616 - y - c) % 18446744073709551616
theorem bw_le (x y c : Nat) : bw x y c ≤ 1 := by unfold bw; split <;> omega
def bws (x y : Nat) : Nat → Nat
  | 0 => 0
  | i + 1 => bw (lb x i) (lb y i) (bws x y i)
theorem bws_le (x y : Nat) : ∀ i, bws x y i ≤ 1
  | 0 => Nat.zero_le _
  | i + 1 => bw_le _ _ _
def dfs (x y i : Nat) : Nat := df (lb x i) (lb y i) (bws x y i)
/-- One part of a difference, told by sums alone. -/
theorem df_spec (x y c : Nat) (hx : x < 18446744073709551616) (hy : y < 18446744073709551616) (hc : c ≤ 1) : x + 18446744073709551616 * bw x y c = y + c + df x y c ∧ df x y c < 18446744073709551616 := by
  unfold bw df; split <;> omega
theorem sub_parts (x y : Nat) (hx : x < B256) (hy : y < B256) :
    x + B256 * bws x y 4 = y + w4 (dfs x y 0) (dfs x y 1) (dfs x y 2) (dfs x y 3) := by
  have h0 := df_spec (lb x 0) (lb y 0) (bws x y 0) (lb_lt _ _) (lb_lt _ _) (bws_le x y 0)
  have h1 := df_spec (lb x 1) (lb y 1) (bws x y 1) (lb_lt _ _) (lb_lt _ _) (bws_le x y 1)
  have h2 := df_spec (lb x 2) (lb y 2) (bws x y 2) (lb_lt _ _) (lb_lt _ _) (bws_le x y 2)
  have h3 := df_spec (lb x 3) (lb y 3) (bws x y 3) (lb_lt _ _) (lb_lt _ _) (bws_le x y 3)
  have ex := w4_lb x
  have ey := w4_lb y
  rw [Nat.mod_eq_of_lt hx] at ex
  rw [Nat.mod_eq_of_lt hy] at ey
  have b0 : bws x y 0 = 0 := rfl
  have b1 : bws x y 1 = bw (lb x 0) (lb y 0) (bws x y 0) := rfl
  have b2 : bws x y 2 = bw (lb x 1) (lb y 1) (bws x y 1) := rfl
  have b3 : bws x y 3 = bw (lb x 2) (lb y 2) (bws x y 2) := rfl
  have b4 : bws x y 4 = bw (lb x 3) (lb y 3) (bws x y 3) := rfl
  unfold w4 at *
  unfold dfs
  unfold B256 at *
  omega
theorem sub_cells (x y : Nat) (hx : x < B256) (hy : y < B256) : #[Value.int .u64 (dfs x y 0), Value.int .u64 (dfs x y 1), Value.int .u64 (dfs x y 2), Value.int .u64 (dfs x y 3)] = wv (x + B256 - y) := by
  have h := sub_parts x y hx hy
  have hb := bws_le x y 4
  refine (wv_w4 (a := dfs x y 0) (b := dfs x y 1) (c := dfs x y 2) (d := dfs x y 3) (df_spec _ _ _ (lb_lt _ _) (lb_lt _ _) (bws_le _ _ _)).2 (df_spec _ _ _ (lb_lt _ _) (lb_lt _ _) (bws_le _ _ _)).2 (df_spec _ _ _ (lb_lt _ _) (lb_lt _ _) (bws_le _ _ _)).2 (df_spec _ _ _ (lb_lt _ _) (lb_lt _ _) (bws_le _ _ _)).2).trans (wv_inj.2 ?_)
  unfold B256 at *
  generalize w4 (dfs x y 0) (dfs x y 1) (dfs x y 2) (dfs x y 3) = d at *
  omega
theorem sub_over (x y : Nat) (hx : x < B256) (hy : y < B256) : ((bws x y 4 : Nat) : Int) = 0 ↔ y ≤ x := by
  have h := sub_parts x y hx hy
  have hb := bws_le x y 4
  have hd : w4 (dfs x y 0) (dfs x y 1) (dfs x y 2) (dfs x y 3) < B256 := w4_lt (df_spec _ _ _ (lb_lt _ _) (lb_lt _ _) (bws_le _ _ _)).2 (df_spec _ _ _ (lb_lt _ _) (lb_lt _ _) (bws_le _ _ _)).2 (df_spec _ _ _ (lb_lt _ _) (lb_lt _ _) (bws_le _ _ _)).2 (df_spec _ _ _ (lb_lt _ _) (lb_lt _ _) (bws_le _ _ _)).2
  generalize w4 (dfs x y 0) (dfs x y 1) (dfs x y 2) (dfs x y 3) = d at *
  unfold B256 at *
  omega

set_option maxRecDepth 100000 in
set_option maxHeartbeats 1600000 in
theorem carry_add (x y : Nat) (hx : x < B256) (hy : y < B256) (w : World) :
    Calls Try.prog 63 #[.agg (wv x), .agg (wv y), .func (.func 64) #[] #[]] w fun e w' => e = .returned (.tuple #[.agg (wv (x + y)), .bool (decide (x + y < B256))]) ∧ Grew w w' := by
  have h0 : ∀ (w : World), (callFunc 64 #[.int .u64 (lb x 0), .int .u64 (lb y 0), .int .u64 0]).run Try.prog w =
    .ok (.value (.tuple #[.int .u64 (sms x y 0), .int .u64 (cys x y 1)])) w := call_add64 _ _ 0 (by omega)
  have h1 : ∀ (w : World), (callFunc 64 #[.int .u64 (lb x 1), .int .u64 (lb y 1), .int .u64 (cys x y 1)]).run Try.prog w =
    .ok (.value (.tuple #[.int .u64 (sms x y 1), .int .u64 (cys x y 2)])) w := call_add64 _ _ _ (cys_le _ _ _)
  have h2 : ∀ (w : World), (callFunc 64 #[.int .u64 (lb x 2), .int .u64 (lb y 2), .int .u64 (cys x y 2)]).run Try.prog w =
    .ok (.value (.tuple #[.int .u64 (sms x y 2), .int .u64 (cys x y 3)])) w := call_add64 _ _ _ (cys_le _ _ _)
  have h3 : ∀ (w : World), (callFunc 64 #[.int .u64 (lb x 3), .int .u64 (lb y 3), .int .u64 (cys x y 3)]).run Try.prog w =
    .ok (.value (.tuple #[.int .u64 (sms x y 3), .int .u64 (cys x y 4)])) w := call_add64 _ _ _ (cys_le _ _ _)
  have hcells := add_cells x y hx hy
  have hover := add_over x y hx hy
  have Hc := Lib.hid hcells
  have Ho := Lib.hid hover
  clear hx hy hcells hover
  go_enter Try.func63, Try.ntmps63
  go_wp2
  refine wp_loop_rounds 5 ?_
  iterate 4
    rw [rounds_succ]
    go_wp2
    first | refine wp_region_pure_tail_g 14 (by kernel_rfl) (by kernel_rfl) (by intro _ _ _ d _ h; cases d <;> exact h) ?_ | refine wp_region_pure_tail 14 (by kernel_rfl) (by kernel_rfl) (by intro _ _ _ d _ h; cases d <;> exact h) ?_
    simp only [List.take_succ_cons, List.take_zero, List.drop_succ_cons, List.drop_zero]
    repeat (go_big_quiet_step ((fail)))
    refine wpQuiet_nil ?_
    intro _ hw'
    obtain ⟨δ1, hw''⟩ := hw'
    subst hw''
    go_wp2
  rw [rounds_succ]
  go_wp2
  refine bodyPost_ret (v := .tuple #[.agg (wv (x + y)), .bool (decide (x + y < B256))]) ?_ rfl ⟨rfl, (by repeat (first | with_reducible exact Grew.refl _ | with_reducible apply Grew.alloc | with_reducible apply Grew.grow | with_reducible apply Grew.drew | with_reducible apply Grew.drewN))⟩
  simp [results, Try.results63, go_sem]
  exact ⟨Hc.out, by rw [Bool.eq_iff_iff, beq_iff_eq, decide_eq_true_eq]; exact Ho.out⟩

set_option maxRecDepth 100000 in
set_option maxHeartbeats 1600000 in
theorem carry_sub (x y : Nat) (hx : x < B256) (hy : y < B256) (w : World) :
    Calls Try.prog 63 #[.agg (wv x), .agg (wv y), .func (.func 79) #[] #[]] w fun e w' => e = .returned (.tuple #[.agg (wv (x + B256 - y)), .bool (decide (y ≤ x))]) ∧ Grew w w' := by
  have h0 : ∀ (w : World), (callFunc 79 #[.int .u64 (lb x 0), .int .u64 (lb y 0), .int .u64 0]).run Try.prog w =
    .ok (.value (.tuple #[.int .u64 (dfs x y 0), .int .u64 (bws x y 1)])) w := call_sub64 _ _ 0 (by omega)
  have h1 : ∀ (w : World), (callFunc 79 #[.int .u64 (lb x 1), .int .u64 (lb y 1), .int .u64 (bws x y 1)]).run Try.prog w =
    .ok (.value (.tuple #[.int .u64 (dfs x y 1), .int .u64 (bws x y 2)])) w := call_sub64 _ _ _ (bws_le _ _ _)
  have h2 : ∀ (w : World), (callFunc 79 #[.int .u64 (lb x 2), .int .u64 (lb y 2), .int .u64 (bws x y 2)]).run Try.prog w =
    .ok (.value (.tuple #[.int .u64 (dfs x y 2), .int .u64 (bws x y 3)])) w := call_sub64 _ _ _ (bws_le _ _ _)
  have h3 : ∀ (w : World), (callFunc 79 #[.int .u64 (lb x 3), .int .u64 (lb y 3), .int .u64 (bws x y 3)]).run Try.prog w =
    .ok (.value (.tuple #[.int .u64 (dfs x y 3), .int .u64 (bws x y 4)])) w := call_sub64 _ _ _ (bws_le _ _ _)
  have hcells := sub_cells x y hx hy
  have hover := sub_over x y hx hy
  have Hc := Lib.hid hcells
  have Ho := Lib.hid hover
  clear hx hy hcells hover
  go_enter Try.func63, Try.ntmps63
  go_wp2
  refine wp_loop_rounds 5 ?_
  iterate 4
    rw [rounds_succ]
    go_wp2
    first | refine wp_region_pure_tail_g 14 (by kernel_rfl) (by kernel_rfl) (by intro _ _ _ d _ h; cases d <;> exact h) ?_ | refine wp_region_pure_tail 14 (by kernel_rfl) (by kernel_rfl) (by intro _ _ _ d _ h; cases d <;> exact h) ?_
    simp only [List.take_succ_cons, List.take_zero, List.drop_succ_cons, List.drop_zero]
    repeat (go_big_quiet_step ((fail)))
    refine wpQuiet_nil ?_
    intro _ hw'
    obtain ⟨δ1, hw''⟩ := hw'
    subst hw''
    go_wp2
  rw [rounds_succ]
  go_wp2
  refine bodyPost_ret (v := .tuple #[.agg (wv (x + B256 - y)), .bool (decide (y ≤ x))]) ?_ rfl ⟨rfl, (by repeat (first | with_reducible exact Grew.refl _ | with_reducible apply Grew.alloc | with_reducible apply Grew.grow | with_reducible apply Grew.drew | with_reducible apply Grew.drewN))⟩
  simp [results, Try.results63, go_sem]
  exact ⟨Hc.out, by rw [Bool.eq_iff_iff, beq_iff_eq, decide_eq_true_eq]; exact Ho.out⟩

set_option maxHeartbeats 400000 in
theorem add_any (x y : Nat) (hx : x < B256) (hy : y < B256) (w : World) :
    Calls Try.prog 40 #[.agg (wv x), .agg (wv y)] w fun e w' => e = .returned (.tuple #[.agg (wv (x + y)), .bool (decide (x + y < B256))]) ∧ Grew w w' := by
  have hcall := fun w => carry_add x y hx hy w
  clear hx hy
  go_enter Try.func40, Try.ntmps40
  go_wp2_with (go_at_call 63; refine (hcall _).mono ?_; rintro e w' ⟨rfl, δ, rfl⟩)
  refine bodyPost_ret (v := .tuple #[.agg (wv (x + y)), .bool (decide (x + y < B256))]) ?_ rfl ⟨rfl, (by repeat (first | with_reducible exact Grew.refl _ | with_reducible apply Grew.alloc | with_reducible apply Grew.grow | with_reducible apply Grew.drew | with_reducible apply Grew.drewN))⟩
  simp [results, Try.results40, go_sem]

set_option maxHeartbeats 400000 in
theorem sub_any (x y : Nat) (hx : x < B256) (hy : y < B256) (w : World) :
    Calls Try.prog 66 #[.agg (wv x), .agg (wv y)] w fun e w' => e = .returned (.tuple #[.agg (wv (x + B256 - y)), .bool (decide (y ≤ x))]) ∧ Grew w w' := by
  have hcall := fun w => carry_sub x y hx hy w
  clear hx hy
  go_enter Try.func66, Try.ntmps66
  go_wp2_with (go_at_call 63; refine (hcall _).mono ?_; rintro e w' ⟨rfl, δ, rfl⟩)
  refine bodyPost_ret (v := .tuple #[.agg (wv (x + B256 - y)), .bool (decide (y ≤ x))]) ?_ rfl ⟨rfl, (by repeat (first | with_reducible exact Grew.refl _ | with_reducible apply Grew.alloc | with_reducible apply Grew.grow | with_reducible apply Grew.drew | with_reducible apply Grew.drewN))⟩
  simp [results, Try.results66, go_sem]
end Go.Proofs.Ytommbfgagalckaa
/- wide's Cmp. -/
namespace Go.Proofs.Ytommbfgagalckaa
set_option linter.unusedVariables false
set_option linter.unusedSimpArgs false
open Go.RowKit

/-- -1, 0 or 1. -/
def cmpN (x y : Nat) : Int := if x < y then -1 else if y < x then 1 else 0
set_option maxHeartbeats 400000 in
theorem isNaN_any (a : Nat) (w : World) : Calls Try.prog 80 #[.int .u64 a] w fun e w' => e = .returned (.bool false) ∧ Grew w w' := by
  go_enter Try.func80, Try.ntmps80
  go_wp2
  go_ret
  exact ⟨by simp, Grew.refl _⟩
set_option maxHeartbeats 400000 in
theorem compare_any (a b : Nat) (w : World) : Calls Try.prog 68 #[.int .u64 a, .int .u64 b] w fun e w' => e = .returned (.int .i64 (cmpN a b)) ∧ Grew w w' := by
  by_cases h1 : a < b
  · go_enter Try.func68, Try.ntmps68
    go_wp2_with (go_at_call 80; refine (isNaN_any _ _).mono ?_; rintro e w' ⟨rfl, δ, rfl⟩)
    go_ret
    exact ⟨by simp [cmpN, h1], (by repeat (first | with_reducible exact Grew.refl _ | with_reducible apply Grew.alloc | with_reducible apply Grew.grow | with_reducible apply Grew.drew | with_reducible apply Grew.drewN))⟩
  by_cases h2 : b < a
  · go_enter Try.func68, Try.ntmps68
    go_wp2_with (go_at_call 80; refine (isNaN_any _ _).mono ?_; rintro e w' ⟨rfl, δ, rfl⟩)
    go_ret
    exact ⟨by simp [cmpN, h1, h2], (by repeat (first | with_reducible exact Grew.refl _ | with_reducible apply Grew.alloc | with_reducible apply Grew.grow | with_reducible apply Grew.drew | with_reducible apply Grew.drewN))⟩
  · go_enter Try.func68, Try.ntmps68
    go_wp2_with (go_at_call 80; refine (isNaN_any _ _).mono ?_; rintro e w' ⟨rfl, δ, rfl⟩)
    go_ret
    exact ⟨by simp [cmpN, h1, h2], (by repeat (first | with_reducible exact Grew.refl _ | with_reducible apply Grew.alloc | with_reducible apply Grew.grow | with_reducible apply Grew.drew | with_reducible apply Grew.drewN))⟩

def or4 (a b c d : Int) : Int := if a ≠ 0 then a else if b ≠ 0 then b else if c ≠ 0 then c else d
set_option maxRecDepth 100000 in
set_option maxHeartbeats 800000 in
theorem or_any (a b c d : Int) (g : Nat) (w : World) (h0 : w.cell? ⟨g, 0, none⟩ = some (.int .i64 a)) (h1 : w.cell? ⟨g, 1, none⟩ = some (.int .i64 b)) (h2 : w.cell? ⟨g, 2, none⟩ = some (.int .i64 c)) (h3 : w.cell? ⟨g, 3, none⟩ = some (.int .i64 d)) :
    Calls Try.prog 67 #[.slice (some ⟨g, 0, none⟩) 4 4] w fun e w' => e = .returned (.int .i64 (or4 a b c d)) ∧ Grew w w' := by
  by_cases ha : a = 0
  · subst ha
    by_cases hb : b = 0
    · subst hb
      by_cases hc : c = 0
      · subst hc
        by_cases hd : d = 0
        · subst hd
          go_enter Try.func67, Try.ntmps67
          go_wp2
          refine wp_loop_rounds 5 ?_
          iterate 4
            rw [rounds_succ]
            go_wp2
          rw [rounds_succ]
          go_wp2
          go_ret
          exact ⟨rfl, Grew.refl _⟩
        · have hd' : (d != 0) = true := by simpa using hd
          go_enter Try.func67, Try.ntmps67
          go_wp2
          refine wp_loop_rounds 5 ?_
          iterate 4
            rw [rounds_succ]
            go_wp2
          go_ret
          exact ⟨by simp [or4], Grew.refl _⟩
      · have hc' : (c != 0) = true := by simpa using hc
        go_enter Try.func67, Try.ntmps67
        go_wp2
        refine wp_loop_rounds 5 ?_
        iterate 3
          rw [rounds_succ]
          go_wp2
        go_ret
        exact ⟨by simp [or4, hc], Grew.refl _⟩
    · have hb' : (b != 0) = true := by simpa using hb
      go_enter Try.func67, Try.ntmps67
      go_wp2
      refine wp_loop_rounds 5 ?_
      iterate 2
        rw [rounds_succ]
        go_wp2
      go_ret
      exact ⟨by simp [or4, hb], Grew.refl _⟩
  · have ha' : (a != 0) = true := by simpa using ha
    go_enter Try.func67, Try.ntmps67
    go_wp2
    refine wp_loop_rounds 5 ?_
    rw [rounds_succ]
    go_wp2
    go_ret
    exact ⟨by simp [or4, ha], Grew.refl _⟩

theorem cmpN_lt {x y : Nat} (h : x < y) : cmpN x y = -1 := by unfold cmpN; rw [if_pos h]
theorem cmpN_gt {x y : Nat} (h : y < x) : cmpN x y = 1 := by unfold cmpN; rw [if_neg (by omega), if_pos h]
theorem cmpN_eq {x y : Nat} (h : x = y) : cmpN x y = 0 := by unfold cmpN; rw [if_neg (by omega), if_neg (by omega)]
theorem cmp_parts (x y : Nat) (hx : x < B256) (hy : y < B256) : or4 (cmpN (lb x 3) (lb y 3)) (cmpN (lb x 2) (lb y 2)) (cmpN (lb x 1) (lb y 1)) (cmpN (lb x 0) (lb y 0)) = cmpN x y := by
  have ex := w4_lb x
  have ey := w4_lb y
  rw [Nat.mod_eq_of_lt hx] at ex
  rw [Nat.mod_eq_of_lt hy] at ey
  clear hx hy
  have := lb_lt x 0; have := lb_lt x 1; have := lb_lt x 2; have := lb_lt x 3
  have := lb_lt y 0; have := lb_lt y 1; have := lb_lt y 2; have := lb_lt y 3
  unfold w4 at ex ey
  generalize lb x 0 = x0 at *; generalize lb x 1 = x1 at *; generalize lb x 2 = x2 at *; generalize lb x 3 = x3 at *
  generalize lb y 0 = y0 at *; generalize lb y 1 = y1 at *; generalize lb y 2 = y2 at *; generalize lb y 3 = y3 at *
  rcases Nat.lt_trichotomy x3 y3 with h | h | h
  · simp [or4, cmpN_lt h, cmpN_lt (show x < y by omega)]
  · rcases Nat.lt_trichotomy x2 y2 with h2 | h2 | h2
    · simp [or4, cmpN_eq h, cmpN_lt h2, cmpN_lt (show x < y by omega)]
    · rcases Nat.lt_trichotomy x1 y1 with h1 | h1 | h1
      · simp [or4, cmpN_eq h, cmpN_eq h2, cmpN_lt h1, cmpN_lt (show x < y by omega)]
      · rcases Nat.lt_trichotomy x0 y0 with h0 | h0 | h0
        · simp [or4, cmpN_eq h, cmpN_eq h2, cmpN_eq h1, cmpN_lt h0, cmpN_lt (show x < y by omega)]
        · simp [or4, cmpN_eq h, cmpN_eq h2, cmpN_eq h1, cmpN_eq h0, cmpN_eq (show x = y by omega)]
        · simp [or4, cmpN_eq h, cmpN_eq h2, cmpN_eq h1, cmpN_gt h0, cmpN_gt (show y < x by omega)]
      · simp [or4, cmpN_eq h, cmpN_eq h2, cmpN_gt h1, cmpN_gt (show y < x by omega)]
    · simp [or4, cmpN_eq h, cmpN_gt h2, cmpN_gt (show y < x by omega)]
  · simp [or4, cmpN_gt h, cmpN_gt (show y < x by omega)]

set_option maxRecDepth 100000 in
set_option maxHeartbeats 1600000 in
theorem cmp_any (x y : Nat) (hx : x < B256) (hy : y < B256) (w : World) :
    Calls Try.prog 43 #[.agg (wv x), .agg (wv y)] w fun e w' => e = .returned (.int .i64 (cmpN x y)) ∧ Grew w w' := by
  have H := Lib.hid (cmp_parts x y hx hy)
  clear hx hy
  go_enter Try.func43, Try.ntmps43
  go_wp2
  first | refine wp_region_pure_tail_g 20 (by kernel_rfl) (by kernel_rfl) (by intro _ _ _ d _ h; cases d <;> exact h) ?_ | refine wp_region_pure_tail 20 (by kernel_rfl) (by kernel_rfl) (by intro _ _ _ d _ h; cases d <;> exact h) ?_
  simp only [List.take_succ_cons, List.take_zero, List.drop_succ_cons, List.drop_zero]
  repeat (go_big_quiet_step ((go_at_call 68; exact Calls.pure_of (compare_any _ _ _))))
  refine wpQuiet_nil ?_
  intro _ hw'
  obtain ⟨δ1, hw''⟩ := hw'
  subst hw''
  go_wp2_with (go_at_call 67; refine (or_any (cmpN (lb x 3) (lb y 3)) (cmpN (lb x 2) (lb y 2)) (cmpN (lb x 1) (lb y 1)) (cmpN (lb x 0) (lb y 0)) _ _ (by simp [go_sem]) (by simp [go_sem]) (by simp [go_sem]) (by simp [go_sem])).mono ?_; rintro e w' ⟨rfl, δ, rfl⟩)
  go_ret
  exact ⟨by first | rfl | (rw [H.out]; rfl), (by repeat (first | with_reducible exact Grew.refl _ | with_reducible apply Grew.alloc | with_reducible apply Grew.grow | with_reducible apply Grew.drew | with_reducible apply Grew.drewN))⟩
end Go.Proofs.Ytommbfgagalckaa
/- wide's numbers held against one another by '==', and its Div. -/
namespace Go.Proofs.Ytommbfgagalckaa
set_option linter.unusedVariables false
set_option linter.unusedSimpArgs false
open Go.RowKit

/-- Are two numbers the same, below 2^256? -/
def weq (a b : Nat) : Bool := decide (a % B256 = b % B256)
theorem weq_lt {a b : Nat} (ha : a < B256) (hb : b < B256) : weq a b = decide (a = b) := by
  unfold weq; rw [Nat.mod_eq_of_lt ha, Nat.mod_eq_of_lt hb]
theorem cells_wide (a : Nat) : wv a = ([(lb a 0 : Int), (lb a 1 : Int), (lb a 2 : Int), (lb a 3 : Int)].map (Value.int .u64)).toArray := rfl
theorem equal_wide (a b : Nat) (w : World) : (Op.equalIn 10000 26 (.agg (wv a)) (.agg (wv b))).run Try.prog w = .ok (weq a b) w := by
  rw [cells_wide, cells_wide, show (10000 : Nat) = 9998 + 2 from rfl, run_equalIn_ints w 9998 Try.underlying26 Try.underlying24 (by kernel_rfl) _ _ rfl rfl]
  congr 1
  unfold weq
  rw [Bool.eq_iff_iff, decide_eq_true_eq, decide_eq_true_eq]
  constructor
  · intro h
    simp only [List.cons.injEq, and_true] at h
    exact lb_inj (by omega) (by omega) (by omega) (by omega)
  · intro h
    obtain ⟨h0, h1, h2, h3⟩ := lb_congr h
    rw [h0, h1, h2, h3]
theorem equal_wide0 (a : Nat) (w : World) : (Op.equalIn 10000 26 (.agg (wv a)) (.agg #[.int .u64 0, .int .u64 0, .int .u64 0, .int .u64 0])).run Try.prog w = .ok (weq a 0) w := equal_wide a 0 w
attribute [go_sem] equal_wide equal_wide0
@[go_sem] theorem guard_wide : Try.prog.eqGuardType Try.prog.depth 26 = false := by kernel_rfl
@[go_sem] theorem build_wide (w : World) : (Instr.build 26 #[]).run Try.prog w = .ok (.agg (wv 0)) w := by kernel_rfl
end Go.Proofs.Ytommbfgagalckaa
/- How many bits a number has. -/
namespace Go.Proofs.Ytommbfgagalckaa
set_option linter.unusedVariables false
set_option linter.unusedSimpArgs false
open Go.RowKit

theorem wrap_add' (k a b : Nat) (hk : k ≤ 56) (ha : a ≤ 8) (hb : b = k + a) : (k : Int) + (a : Int) = (b : Int) := by omega
theorem len8_bd (i : Int) (h0 : 0 ≤ i) (h1 : i ≤ 255) : 0 ≤ Lib.len8 i ∧ Lib.len8 i ≤ 8 := by
  rw [Lib.len8_of i h0 h1]; have := Lib.bitLen_le8' i h0 h1; omega
set_option maxRecDepth 1000000 in
theorem fold_len8 : (ByteArray.mk ((([0, 1, 2, 2, 3, 3, 3, 3, 4, 4, 4, 4, 4, 4, 4, 4, 5, 5, 5, 5, 5, 5, 5, 5, 5, 5, 5, 5, 5, 5, 5, 5, 6, 6, 6, 6, 6, 6, 6, 6, 6, 6, 6, 6, 6, 6, 6, 6, 6, 6, 6, 6, 6, 6, 6, 6, 6, 6, 6, 6, 6, 6, 6, 6] : List UInt8).append [7, 7, 7, 7, 7, 7, 7, 7, 7, 7, 7, 7, 7, 7, 7, 7, 7, 7, 7, 7, 7, 7, 7, 7, 7, 7, 7, 7, 7, 7, 7, 7, 7, 7, 7, 7, 7, 7, 7, 7, 7, 7, 7, 7, 7, 7, 7, 7, 7, 7, 7, 7, 7, 7, 7, 7, 7, 7, 7, 7, 7, 7, 7, 7]).append (([8, 8, 8, 8, 8, 8, 8, 8, 8, 8, 8, 8, 8, 8, 8, 8, 8, 8, 8, 8, 8, 8, 8, 8, 8, 8, 8, 8, 8, 8, 8, 8, 8, 8, 8, 8, 8, 8, 8, 8, 8, 8, 8, 8, 8, 8, 8, 8, 8, 8, 8, 8, 8, 8, 8, 8, 8, 8, 8, 8, 8, 8, 8, 8] : List UInt8).append [8, 8, 8, 8, 8, 8, 8, 8, 8, 8, 8, 8, 8, 8, 8, 8, 8, 8, 8, 8, 8, 8, 8, 8, 8, 8, 8, 8, 8, 8, 8, 8, 8, 8, 8, 8, 8, 8, 8, 8, 8, 8, 8, 8, 8, 8, 8, 8, 8, 8, 8, 8, 8, 8, 8, 8, 8, 8, 8, 8, 8, 8, 8, 8])).toArray) = Lib.len8tab := rfl
set_option maxRecDepth 1000000 in
set_option maxHeartbeats 1600000 in
theorem len64_000 (x : Nat) (h32 : ¬ ((4294967296 : Int) ≤ (x : Int))) (h16 : ¬ ((65536 : Int) ≤ (x : Int))) (h8 : ¬ ((256 : Int) ≤ (x : Int))) (w : World) :
    Calls Try.prog 78 #[.int .u64 x] w fun e w' => e = .returned (.int .i64 (0 + Lib.len8 ((x : Int)))) ∧ Grew w w' := by
  have hr := len8_bd ((x : Int)) (by omega) (by omega)
  have hr1 := hr.1
  have hr2 := hr.2
  have hm : ((x : Int)) % 256 = (x : Int) := by omega
  have hi : ∀ w, (Instr.index 9 (.string Lib.len8tab) (.int .u8 ((x : Int)))).run Try.prog w = .ok (.int .u8 (Lib.len8 ((x : Int)))) w := fun w => Lib.run_index_len8tab w 9 .u8 _ Try.underlying9 (by omega) (by omega)
  clear hr
  go_enter Try.func78, Try.ntmps78
  rw [fold_len8]
  go_wp2
  go_ret
  refine ⟨congrArg Ending.returned (congrArg (Value.int IntKind.i64) ?_), Grew.refl _⟩
  first | rfl | (simp; done) | trace_state
set_option maxRecDepth 1000000 in
set_option maxHeartbeats 1600000 in
theorem len64_001 (x : Nat) (h32 : ¬ ((4294967296 : Int) ≤ (x : Int))) (h16 : ¬ ((65536 : Int) ≤ (x : Int))) (h8 : (256 : Int) ≤ (x : Int)) (w : World) :
    Calls Try.prog 78 #[.int .u64 x] w fun e w' => e = .returned (.int .i64 (8 + Lib.len8 ((x : Int) / 256))) ∧ Grew w w' := by
  have hr := len8_bd ((x : Int) / 256) (by omega) (by omega)
  have hr1 := hr.1
  have hr2 := hr.2
  have hm : ((x : Int) / 256) % 256 = (x : Int) / 256 := by omega
  have hi : ∀ w, (Instr.index 9 (.string Lib.len8tab) (.int .u8 ((x : Int) / 256))).run Try.prog w = .ok (.int .u8 (Lib.len8 ((x : Int) / 256))) w := fun w => Lib.run_index_len8tab w 9 .u8 _ Try.underlying9 (by omega) (by omega)
  clear hr
  go_enter Try.func78, Try.ntmps78
  rw [fold_len8]
  go_wp2
  go_ret
  refine ⟨congrArg Ending.returned (congrArg (Value.int IntKind.i64) ?_), Grew.refl _⟩
  first | rfl | (simp; done) | trace_state
set_option maxRecDepth 1000000 in
set_option maxHeartbeats 1600000 in
theorem len64_010 (x : Nat) (h32 : ¬ ((4294967296 : Int) ≤ (x : Int))) (h16 : (65536 : Int) ≤ (x : Int)) (h8 : ¬ ((256 : Int) ≤ (x : Int) / 65536)) (w : World) :
    Calls Try.prog 78 #[.int .u64 x] w fun e w' => e = .returned (.int .i64 (16 + Lib.len8 ((x : Int) / 65536))) ∧ Grew w w' := by
  have hr := len8_bd ((x : Int) / 65536) (by omega) (by omega)
  have hr1 := hr.1
  have hr2 := hr.2
  have hm : ((x : Int) / 65536) % 256 = (x : Int) / 65536 := by omega
  have hi : ∀ w, (Instr.index 9 (.string Lib.len8tab) (.int .u8 ((x : Int) / 65536))).run Try.prog w = .ok (.int .u8 (Lib.len8 ((x : Int) / 65536))) w := fun w => Lib.run_index_len8tab w 9 .u8 _ Try.underlying9 (by omega) (by omega)
  clear hr
  go_enter Try.func78, Try.ntmps78
  rw [fold_len8]
  go_wp2
  go_ret
  refine ⟨congrArg Ending.returned (congrArg (Value.int IntKind.i64) ?_), Grew.refl _⟩
  first | rfl | (simp; done) | trace_state
set_option maxRecDepth 1000000 in
set_option maxHeartbeats 1600000 in
theorem len64_011 (x : Nat) (h32 : ¬ ((4294967296 : Int) ≤ (x : Int))) (h16 : (65536 : Int) ≤ (x : Int)) (h8 : (256 : Int) ≤ (x : Int) / 65536) (w : World) :
    Calls Try.prog 78 #[.int .u64 x] w fun e w' => e = .returned (.int .i64 (24 + Lib.len8 ((x : Int) / 65536 / 256))) ∧ Grew w w' := by
  have hr := len8_bd ((x : Int) / 65536 / 256) (by omega) (by omega)
  have hr1 := hr.1
  have hr2 := hr.2
  have hm : ((x : Int) / 65536 / 256) % 256 = (x : Int) / 65536 / 256 := by omega
  have hi : ∀ w, (Instr.index 9 (.string Lib.len8tab) (.int .u8 ((x : Int) / 65536 / 256))).run Try.prog w = .ok (.int .u8 (Lib.len8 ((x : Int) / 65536 / 256))) w := fun w => Lib.run_index_len8tab w 9 .u8 _ Try.underlying9 (by omega) (by omega)
  clear hr
  go_enter Try.func78, Try.ntmps78
  rw [fold_len8]
  go_wp2
  go_ret
  refine ⟨congrArg Ending.returned (congrArg (Value.int IntKind.i64) ?_), Grew.refl _⟩
  first | rfl | (simp; done) | trace_state
set_option maxRecDepth 1000000 in
set_option maxHeartbeats 1600000 in
theorem len64_100 (x : Nat) (h32 : (4294967296 : Int) ≤ (x : Int)) (h16 : ¬ ((65536 : Int) ≤ (x : Int) / 4294967296)) (h8 : ¬ ((256 : Int) ≤ (x : Int) / 4294967296)) (w : World) :
    Calls Try.prog 78 #[.int .u64 x] w fun e w' => e = .returned (.int .i64 (32 + Lib.len8 ((x : Int) / 4294967296))) ∧ Grew w w' := by
  have hr := len8_bd ((x : Int) / 4294967296) (by omega) (by omega)
  have hr1 := hr.1
  have hr2 := hr.2
  have hm : ((x : Int) / 4294967296) % 256 = (x : Int) / 4294967296 := by omega
  have hi : ∀ w, (Instr.index 9 (.string Lib.len8tab) (.int .u8 ((x : Int) / 4294967296))).run Try.prog w = .ok (.int .u8 (Lib.len8 ((x : Int) / 4294967296))) w := fun w => Lib.run_index_len8tab w 9 .u8 _ Try.underlying9 (by omega) (by omega)
  clear hr
  go_enter Try.func78, Try.ntmps78
  rw [fold_len8]
  go_wp2
  go_ret
  refine ⟨congrArg Ending.returned (congrArg (Value.int IntKind.i64) ?_), Grew.refl _⟩
  first | rfl | (simp; done) | trace_state
set_option maxRecDepth 1000000 in
set_option maxHeartbeats 1600000 in
theorem len64_101 (x : Nat) (h32 : (4294967296 : Int) ≤ (x : Int)) (h16 : ¬ ((65536 : Int) ≤ (x : Int) / 4294967296)) (h8 : (256 : Int) ≤ (x : Int) / 4294967296) (w : World) :
    Calls Try.prog 78 #[.int .u64 x] w fun e w' => e = .returned (.int .i64 (40 + Lib.len8 ((x : Int) / 4294967296 / 256))) ∧ Grew w w' := by
  have hr := len8_bd ((x : Int) / 4294967296 / 256) (by omega) (by omega)
  have hr1 := hr.1
  have hr2 := hr.2
  have hm : ((x : Int) / 4294967296 / 256) % 256 = (x : Int) / 4294967296 / 256 := by omega
  have hi : ∀ w, (Instr.index 9 (.string Lib.len8tab) (.int .u8 ((x : Int) / 4294967296 / 256))).run Try.prog w = .ok (.int .u8 (Lib.len8 ((x : Int) / 4294967296 / 256))) w := fun w => Lib.run_index_len8tab w 9 .u8 _ Try.underlying9 (by omega) (by omega)
  clear hr
  go_enter Try.func78, Try.ntmps78
  rw [fold_len8]
  go_wp2
  go_ret
  refine ⟨congrArg Ending.returned (congrArg (Value.int IntKind.i64) ?_), Grew.refl _⟩
  first | rfl | (simp; done) | trace_state
set_option maxRecDepth 1000000 in
set_option maxHeartbeats 1600000 in
theorem len64_110 (x : Nat) (h32 : (4294967296 : Int) ≤ (x : Int)) (h16 : (65536 : Int) ≤ (x : Int) / 4294967296) (h8 : ¬ ((256 : Int) ≤ (x : Int) / 4294967296 / 65536)) (w : World) :
    Calls Try.prog 78 #[.int .u64 x] w fun e w' => e = .returned (.int .i64 (48 + Lib.len8 ((x : Int) / 4294967296 / 65536))) ∧ Grew w w' := by
  have hr := len8_bd ((x : Int) / 4294967296 / 65536) (by omega) (by omega)
  have hr1 := hr.1
  have hr2 := hr.2
  have hm : ((x : Int) / 4294967296 / 65536) % 256 = (x : Int) / 4294967296 / 65536 := by omega
  have hi : ∀ w, (Instr.index 9 (.string Lib.len8tab) (.int .u8 ((x : Int) / 4294967296 / 65536))).run Try.prog w = .ok (.int .u8 (Lib.len8 ((x : Int) / 4294967296 / 65536))) w := fun w => Lib.run_index_len8tab w 9 .u8 _ Try.underlying9 (by omega) (by omega)
  clear hr
  go_enter Try.func78, Try.ntmps78
  rw [fold_len8]
  go_wp2
  go_ret
  refine ⟨congrArg Ending.returned (congrArg (Value.int IntKind.i64) ?_), Grew.refl _⟩
  first | rfl | (simp; done) | trace_state
set_option maxRecDepth 1000000 in
set_option maxHeartbeats 1600000 in
theorem len64_111 (x : Nat) (hx : x < 18446744073709551616) (h32 : (4294967296 : Int) ≤ (x : Int)) (h16 : (65536 : Int) ≤ (x : Int) / 4294967296) (h8 : (256 : Int) ≤ (x : Int) / 4294967296 / 65536) (w : World) :
    Calls Try.prog 78 #[.int .u64 x] w fun e w' => e = .returned (.int .i64 (56 + Lib.len8 ((x : Int) / 4294967296 / 65536 / 256))) ∧ Grew w w' := by
  have hr := len8_bd ((x : Int) / 4294967296 / 65536 / 256) (by omega) (by omega)
  have hr1 := hr.1
  have hr2 := hr.2
  have hm : ((x : Int) / 4294967296 / 65536 / 256) % 256 = (x : Int) / 4294967296 / 65536 / 256 := by omega
  have hi : ∀ w, (Instr.index 9 (.string Lib.len8tab) (.int .u8 ((x : Int) / 4294967296 / 65536 / 256))).run Try.prog w = .ok (.int .u8 (Lib.len8 ((x : Int) / 4294967296 / 65536 / 256))) w := fun w => Lib.run_index_len8tab w 9 .u8 _ Try.underlying9 (by omega) (by omega)
  clear hr hx
  go_enter Try.func78, Try.ntmps78
  rw [fold_len8]
  go_wp2
  go_ret
  refine ⟨congrArg Ending.returned (congrArg (Value.int IntKind.i64) ?_), Grew.refl _⟩
  first | rfl | (simp; done) | trace_state

theorem len64_any (x : Nat) (hx : x < 18446744073709551616) (w : World) :
    Calls Try.prog 78 #[.int .u64 x] w fun e w' => e = .returned (.int .i64 (Lib.bitLen x)) ∧ Grew w w' := by
  by_cases h32 : (4294967296 : Int) ≤ (x : Int)
  · by_cases h16 : (65536 : Int) ≤ (x : Int) / 4294967296
    · by_cases h8 : (256 : Int) ≤ (x : Int) / 4294967296 / 65536
      · refine (len64_111 x hx h32 h16 h8 w).mono fun e w' ⟨he, hw⟩ => ⟨he.trans ?_, hw⟩
        rw [Lib.len8_of _ (by omega) (by omega)]
        have e : ((x : Int) / 4294967296 / 65536 / 256).toNat = x / 72057594037927936 := by omega
        have sh := Lib.bitLen_shift56 x (by omega) hx
        rw [e]
        rw [sh]; rfl
      · refine (len64_110 x h32 h16 h8 w).mono fun e w' ⟨he, hw⟩ => ⟨he.trans ?_, hw⟩
        rw [Lib.len8_of _ (by omega) (by omega)]
        have e : ((x : Int) / 4294967296 / 65536).toNat = x / 281474976710656 := by omega
        have sh := Lib.bitLen_shift48 x (by omega) hx
        rw [e]
        rw [sh]; rfl
    · by_cases h8 : (256 : Int) ≤ (x : Int) / 4294967296
      · refine (len64_101 x h32 h16 h8 w).mono fun e w' ⟨he, hw⟩ => ⟨he.trans ?_, hw⟩
        rw [Lib.len8_of _ (by omega) (by omega)]
        have e : ((x : Int) / 4294967296 / 256).toNat = x / 1099511627776 := by omega
        have sh := Lib.bitLen_shift40 x (by omega) hx
        rw [e]
        rw [sh]; rfl
      · refine (len64_100 x h32 h16 h8 w).mono fun e w' ⟨he, hw⟩ => ⟨he.trans ?_, hw⟩
        rw [Lib.len8_of _ (by omega) (by omega)]
        have e : ((x : Int) / 4294967296).toNat = x / 4294967296 := by omega
        have sh := Lib.bitLen_shift32 x (by omega) hx
        rw [e]
        rw [sh]; rfl
  · by_cases h16 : (65536 : Int) ≤ (x : Int)
    · by_cases h8 : (256 : Int) ≤ (x : Int) / 65536
      · refine (len64_011 x h32 h16 h8 w).mono fun e w' ⟨he, hw⟩ => ⟨he.trans ?_, hw⟩
        rw [Lib.len8_of _ (by omega) (by omega)]
        have e : ((x : Int) / 65536 / 256).toNat = x / 16777216 := by omega
        have sh := Lib.bitLen_shift24 x (by omega) hx
        rw [e]
        rw [sh]; rfl
      · refine (len64_010 x h32 h16 h8 w).mono fun e w' ⟨he, hw⟩ => ⟨he.trans ?_, hw⟩
        rw [Lib.len8_of _ (by omega) (by omega)]
        have e : ((x : Int) / 65536).toNat = x / 65536 := by omega
        have sh := Lib.bitLen_shift16 x (by omega) hx
        rw [e]
        rw [sh]; rfl
    · by_cases h8 : (256 : Int) ≤ (x : Int)
      · refine (len64_001 x h32 h16 h8 w).mono fun e w' ⟨he, hw⟩ => ⟨he.trans ?_, hw⟩
        rw [Lib.len8_of _ (by omega) (by omega)]
        have e : ((x : Int) / 256).toNat = x / 256 := by omega
        have sh := Lib.bitLen_shift8 x (by omega) hx
        rw [e]
        rw [sh]; rfl
      · refine (len64_000 x h32 h16 h8 w).mono fun e w' ⟨he, hw⟩ => ⟨he.trans ?_, hw⟩
        rw [Lib.len8_of _ (by omega) (by omega)]
        have e : ((x : Int)).toNat = x := by omega
        rw [e]
        exact congrArg Ending.returned (congrArg (Value.int IntKind.i64) (Int.zero_add _))
end Go.Proofs.Ytommbfgagalckaa
/- How many bits a number of four parts has. -/
namespace Go.Proofs.Ytommbfgagalckaa
set_option linter.unusedVariables false
set_option linter.unusedSimpArgs false
open Go.RowKit

/-- How many bits a number has. -/
def bl (x : Nat) : Nat := if x = 0 then 0 else x.log2 + 1
theorem bl_half (x : Nat) (h : x ≠ 0) : bl x = 1 + bl (x / 2) := by
  unfold bl
  rw [if_neg h]
  by_cases h1 : x / 2 = 0
  · rw [if_pos h1]
    have : x = 1 := by omega
    subst this; rfl
  · rw [if_neg h1, Nat.log2_def x, if_pos (by omega)]; omega
theorem bl_aux : ∀ (f x : Nat), x < 2 ^ f → Lib.bitLenAux f x = bl x
  | 0, x, h => by have : x = 0 := by simpa using h
                  subst this; rfl
  | f + 1, x, h => by
    unfold Lib.bitLenAux
    split
    · subst_vars; rfl
    · rename_i h0
      rw [bl_half x h0, bl_aux f (x / 2) (by rw [Nat.pow_succ] at h; omega)]
theorem bl_len (x : Nat) (h : x < 18446744073709551616) : Lib.bitLen x = bl x := bl_aux 64 x h
theorem bl_lt (x : Nat) : x < 2 ^ bl x := by
  unfold bl; split
  · subst_vars; decide
  · exact Nat.lt_log2_self
theorem bl_ge (x : Nat) (h : x ≠ 0) : 2 ^ (bl x - 1) ≤ x := by
  unfold bl; rw [if_neg h]; simpa using Nat.log2_self_le h
theorem bl_pos (x : Nat) (h : x ≠ 0) : 0 < bl x := by unfold bl; rw [if_neg h]; omega
theorem bl_of (x k : Nat) (h1 : 2 ^ k ≤ x) (h2 : x < 2 ^ (k + 1)) : bl x = k + 1 := by
  have hx : x ≠ 0 := by have := Nat.two_pow_pos k; omega
  unfold bl; rw [if_neg hx, (Nat.log2_eq_iff hx).2 ⟨h1, h2⟩]
theorem bl_mul (a k r : Nat) (ha : a ≠ 0) (hr : r < 2 ^ k) : bl (a * 2 ^ k + r) = k + bl a := by
  have h1 := bl_lt a
  have h2 := bl_ge a ha
  have h3 := bl_pos a ha
  obtain ⟨m, hm⟩ : ∃ m, bl a = m + 1 := ⟨bl a - 1, by omega⟩
  rw [hm] at h1 h2 ⊢
  have e : k + (m + 1) = (m + k) + 1 := by omega
  rw [e]
  apply bl_of
  · rw [Nat.pow_add]
    have := Nat.mul_le_mul_right (2 ^ k) (show 2 ^ m ≤ a by simpa using h2)
    omega
  · rw [show m + k + 1 = (m + 1) + k by omega, Nat.pow_add]
    have h4 := Nat.mul_le_mul_right (2 ^ k) (show a + 1 ≤ 2 ^ (m + 1) from h1)
    rw [Nat.add_mul, Nat.one_mul] at h4
    omega
theorem bl_le (x : Nat) (h : x < B256) : bl x ≤ 256 := by
  by_cases hx : x = 0
  · subst hx; decide
  · have := bl_ge x hx
    rcases Nat.lt_or_ge 256 (bl x) with hc | hc
    · have h2 : 2 ^ 256 ≤ 2 ^ (bl x - 1) := Nat.pow_le_pow_right (by decide) (by omega)
      have h3 : (2 ^ 256 : Nat) = B256 := by decide +kernel
      omega
    · exact hc

theorem long3 (x : Nat) (hx : x < B256) (h : lb x 3 ≠ 0) : bl x = 192 + bl (lb x 3) := by
  have e := w4_lb x
  rw [Nat.mod_eq_of_lt hx] at e
  have := lb_lt x 0; have := lb_lt x 1; have := lb_lt x 2
  have := bl_mul (lb x 3) 192 (lb x 0 + 18446744073709551616 * lb x 1 + 340282366920938463463374607431768211456 * lb x 2) h (by
    rw [show (2 : Nat) ^ 192 = 6277101735386680763835789423207666416102355444464034512896 by decide +kernel]; omega)
  rw [show (2 : Nat) ^ 192 = 6277101735386680763835789423207666416102355444464034512896 by decide +kernel] at this
  rw [← this]; congr 1; unfold w4 at e; omega
theorem long2 (x : Nat) (hx : x < B256) (h3 : lb x 3 = 0) (h : lb x 2 ≠ 0) : bl x = 128 + bl (lb x 2) := by
  have e := w4_lb x
  rw [Nat.mod_eq_of_lt hx] at e
  have := lb_lt x 0; have := lb_lt x 1
  have := bl_mul (lb x 2) 128 (lb x 0 + 18446744073709551616 * lb x 1) h (by
    rw [show (2 : Nat) ^ 128 = 340282366920938463463374607431768211456 by decide +kernel]; omega)
  rw [show (2 : Nat) ^ 128 = 340282366920938463463374607431768211456 by decide +kernel] at this
  rw [← this]; congr 1; unfold w4 at e; omega
theorem long1 (x : Nat) (hx : x < B256) (h3 : lb x 3 = 0) (h2 : lb x 2 = 0) (h : lb x 1 ≠ 0) : bl x = 64 + bl (lb x 1) := by
  have e := w4_lb x
  rw [Nat.mod_eq_of_lt hx] at e
  have := lb_lt x 0
  have := bl_mul (lb x 1) 64 (lb x 0) h (by
    rw [show (2 : Nat) ^ 64 = 18446744073709551616 by decide +kernel]; omega)
  rw [show (2 : Nat) ^ 64 = 18446744073709551616 by decide +kernel] at this
  rw [← this]; congr 1; unfold w4 at e; omega
theorem long0 (x : Nat) (hx : x < B256) (h3 : lb x 3 = 0) (h2 : lb x 2 = 0) (h1 : lb x 1 = 0) : bl x = bl (lb x 0) := by
  have e := w4_lb x
  rw [Nat.mod_eq_of_lt hx] at e
  congr 1; unfold w4 at e; omega

theorem len64_bl (x : Nat) (hx : x < 18446744073709551616) (w : World) :
    Calls Try.prog 78 #[.int .u64 x] w fun e w' => e = .returned (.int .i64 (bl x)) ∧ Grew w w' := by
  rw [← bl_len x hx]; exact len64_any x hx w

theorem lb_pos (x i : Nat) (h : lb x i ≠ 0) : (0 : Int) < (lb x i : Int) := by omega
theorem lb_nil (x i : Nat) (h : lb x i = 0) : ¬ (0 : Int) < (lb x i : Int) := by omega
theorem bl_64 (x i : Nat) : bl (lb x i) ≤ 64 := by rw [← bl_len _ (lb_lt _ _)]; exact Lib.bitLen_le _ 64 (by decide) (lb_lt _ _)

set_option maxRecDepth 100000 in
set_option maxHeartbeats 1600000 in
theorem long_any (x : Nat) (hx : x < B256) (w : World) :
    Calls Try.prog 65 #[.agg (wv x)] w fun e w' => e = .returned (.int .i64 (bl x)) ∧ Grew w w' := by
  have hc := fun i w => len64_bl (lb x i) (lb_lt x i) w
  have g0 := bl_64 x 0
  have g1 := bl_64 x 1
  have g2 := bl_64 x 2
  have g3 := bl_64 x 3
  by_cases h3 : lb x 3 = 0
  · have p3 := lb_nil x 3 h3
    by_cases h2 : lb x 2 = 0
    · have p2 := lb_nil x 2 h2
      by_cases h1 : lb x 1 = 0
      · have p1 := lb_nil x 1 h1
        by_cases h0 : lb x 0 = 0
        · have p0 := lb_nil x 0 h0
          have H := Lib.hid (long0 x hx h3 h2 h1)
          have H0 := Lib.hid h0
          clear h0 h1 h2 h3 hx g0 g1 g2 g3 hc
          go_enter Try.func65, Try.ntmps65
          go_wp2
          refine wp_loop_rounds 5 ?_
          iterate 4
            rw [rounds_succ]
            go_wp2
          rw [rounds_succ]
          go_wp2
          go_ret
          exact ⟨by rw [H.out, H0.out]; rfl, (by repeat (first | with_reducible exact Grew.refl _ | with_reducible apply Grew.alloc | with_reducible apply Grew.grow | with_reducible apply Grew.drew | with_reducible apply Grew.drewN))⟩
        · have p0 := lb_pos x 0 h0
          have H := Lib.hid (long0 x hx h3 h2 h1)
          clear h0 h1 h2 h3 hx
          go_enter Try.func65, Try.ntmps65
          go_wp2
          refine wp_loop_rounds 5 ?_
          iterate 4
            rw [rounds_succ]
            go_wp2_with (go_at_call 78; refine (hc 0 _).mono ?_; rintro e w' ⟨rfl, δ, rfl⟩)
          go_ret
          exact ⟨by rw [H.out]; simp, (by repeat (first | with_reducible exact Grew.refl _ | with_reducible apply Grew.alloc | with_reducible apply Grew.grow | with_reducible apply Grew.drew | with_reducible apply Grew.drewN))⟩
      · have p1 := lb_pos x 1 h1
        have H := Lib.hid (long1 x hx h3 h2 h1)
        clear h1 h2 h3 hx
        go_enter Try.func65, Try.ntmps65
        go_wp2
        refine wp_loop_rounds 5 ?_
        iterate 3
          rw [rounds_succ]
          go_wp2_with (go_at_call 78; refine (hc 1 _).mono ?_; rintro e w' ⟨rfl, δ, rfl⟩)
        go_ret
        exact ⟨by rw [H.out]; simp, (by repeat (first | with_reducible exact Grew.refl _ | with_reducible apply Grew.alloc | with_reducible apply Grew.grow | with_reducible apply Grew.drew | with_reducible apply Grew.drewN))⟩
    · have p2 := lb_pos x 2 h2
      have H := Lib.hid (long2 x hx h3 h2)
      clear h2 h3 hx
      go_enter Try.func65, Try.ntmps65
      go_wp2
      refine wp_loop_rounds 5 ?_
      iterate 2
        rw [rounds_succ]
        go_wp2_with (go_at_call 78; refine (hc 2 _).mono ?_; rintro e w' ⟨rfl, δ, rfl⟩)
      go_ret
      exact ⟨by rw [H.out]; simp, (by repeat (first | with_reducible exact Grew.refl _ | with_reducible apply Grew.alloc | with_reducible apply Grew.grow | with_reducible apply Grew.drew | with_reducible apply Grew.drewN))⟩
  · have p3 := lb_pos x 3 h3
    have H := Lib.hid (long3 x hx h3)
    clear h3 hx
    go_enter Try.func65, Try.ntmps65
    go_wp2
    refine wp_loop_rounds 5 ?_
    rw [rounds_succ]
    go_wp2_with (go_at_call 78; refine (hc 3 _).mono ?_; rintro e w' ⟨rfl, δ, rfl⟩)
    go_ret
    exact ⟨by rw [H.out]; simp, (by repeat (first | with_reducible exact Grew.refl _ | with_reducible apply Grew.alloc | with_reducible apply Grew.grow | with_reducible apply Grew.drew | with_reducible apply Grew.drewN))⟩
end Go.Proofs.Ytommbfgagalckaa
/- wide's Div. -/
namespace Go.Proofs.Ytommbfgagalckaa
set_option linter.unusedVariables false
set_option linter.unusedSimpArgs false
open Go.RowKit

set_option maxRecDepth 100000 in
set_option maxHeartbeats 1600000 in
theorem div_nil (x : Nat) (w : World) :
    Calls Try.prog 41 #[.agg (wv x), .agg (wv 0)] w fun e w' => e = .returned (.tuple #[.agg (wv 0), .agg (wv 0), .bool false]) ∧ Grew w w' := by
  have h0 : weq 0 0 = true := rfl
  go_enter Try.func41, Try.ntmps41
  go_wp2
  refine bodyPost_ret (v := .tuple #[.agg (wv 0), .agg (wv 0), .bool false]) ?_ rfl ⟨rfl, (by repeat (first | with_reducible exact Grew.refl _ | with_reducible apply Grew.alloc | with_reducible apply Grew.grow | with_reducible apply Grew.drew | with_reducible apply Grew.drewN))⟩
  simp [results, Try.results41, go_sem]
  rfl

theorem or_pow (u s : Nat) (hu : u < 18446744073709551616) (hs : s < 64) : bits .or .u64 (u : Int) (IntKind.u64.wrap (2 ^ s)) = ((u ||| 2 ^ s : Nat) : Int) := by
  have h1 : 2 ^ s < 18446744073709551616 := by have := Nat.pow_lt_pow_right (a := 2) (by decide) hs; omega
  have e1 : IntKind.u64.wrap (2 ^ s) = ((2 ^ s : Nat) : Int) := by
    rw [IntKind.wrap_u64, show ((2 : Int) ^ s) = ((2 ^ s : Nat) : Int) by simp]
    generalize 2 ^ s = m at *
    omega
  rw [e1, bits_or_u64 _ _ hu h1]

theorem div_start (x y : Nat) (hy0 : y ≠ 0) : x < y * 2 ^ ((bl x : Int) - bl y + 1).toNat := by
  have h1 := bl_lt x
  have h2 := bl_ge y hy0
  have h3 := bl_pos y hy0
  rcases Nat.lt_or_ge (bl x) (bl y) with h | h
  · rw [show ((bl x : Int) - bl y + 1).toNat = 0 by omega]
    have : 2 ^ bl x ≤ 2 ^ (bl y - 1) := Nat.pow_le_pow_right (by decide) (by omega)
    omega
  · have e : bl x = (bl y - 1) + ((bl x : Int) - bl y + 1).toNat := by omega
    have h4 : 2 ^ bl x = 2 ^ (bl y - 1) * 2 ^ ((bl x : Int) - bl y + 1).toNat := by rw [← Nat.pow_add, ← e]
    have h5 := Nat.mul_le_mul_right (2 ^ ((bl x : Int) - bl y + 1).toNat) h2
    omega

set_option maxRecDepth 100000 in
set_option maxHeartbeats 1600000 in
theorem div_some (x y : Nat) (hx : x < B256) (hy : y < B256) (hy0 : y ≠ 0) (w : World) :
    Calls Try.prog 41 #[.agg (wv x), .agg (wv y)] w fun e w' => e = .returned (.tuple #[.agg (wv (x / y)), .agg (wv (x % y)), .bool true]) ∧ Grew w w' := by
  have h0 : weq y 0 = false := by rw [weq_lt hy (by decide)]; simpa using hy0
  have b1 := bl_le x hx
  have b2 := bl_le y hy
  have Hx := Lib.hid hx
  have Hy := Lib.hid hy
  have Hz := Lib.hid hy0
  clear hx hy hy0
  go_enter Try.func41, Try.ntmps41
  go_wp2
  first | refine wp_region_pure_lit_g (by kernel_rfl) (by kernel_rfl) ?_ | refine wp_region_pure_lit (by kernel_rfl) (by kernel_rfl) ?_
  repeat (go_big_quiet_step ((go_at_call 65; exact Calls.pure_of (long_any _ (by first | exact Hx.out | exact Hy.out) _))))
  refine wpQuiet_nil ?_
  intro _ hw'
  obtain ⟨δ1, hw''⟩ := hw'
  subst hw''
  go_wp2
  go_loopw [8] (fun n wr => ∃ (k : Int) (q r : Nat) (δ : Junk), n = .int .i64 k ∧
      wr = (((((w.alloc (.cells (wv r) 26)).alloc (.cells (wv y) 26)).alloc (.cells #[.int .u64 0, .int .u64 0, .int .u64 0, .int .u64 0] 26)).alloc (.cells #[.int .u64 0, .int .u64 0, .int .u64 0, .int .u64 0] 26)).alloc (.cells (wv q) 26)).grow δ ∧
      x = q * y + r ∧ r < y * 2 ^ (k + 1).toNat ∧ q % 2 ^ (k + 1).toNat = 0 ∧ k + bl y ≤ 256) (fun n _ => (intOf n + 1).toNat)
  case atStart =>
    refine ⟨_, 0, x, δ1, rfl, rfl, by omega, div_start x y Hz.out, Nat.zero_mod _, by omega⟩
  case round =>
    obtain ⟨k, q, r, δ, rfl, rfl, hxq, hr, hq, hk⟩ := hrel
    by_cases hn : 0 ≤ k
    · obtain ⟨n, rfl⟩ := Int.eq_ofNat_of_zero_le hn
      rw [show ((n : Int) + 1).toNat = n + 1 by omega] at hr hq
      have hu : y <<< n < B256 := div_up y n (bl y) (bl_lt y) (by omega)
      have hn' : n < 256 := by have := bl_pos y Hz.out; omega
      have hrx : r < B256 := Nat.lt_of_le_of_lt (by omega) Hx.out
      have HU := Lib.hid hu
      have HR := Lib.hid hrx
      have HXQ := Lib.hid hxq
      have HRR := Lib.hid hr
      have HQ := Lib.hid hq
      clear hu hrx hxq hr hq hn
      by_cases hle : y <<< n ≤ r
      · have hd : decide (y <<< n ≤ r) = true := by simpa using hle
        have he : wv (r + B256 - y <<< n) = wv (r - y <<< n) := by
          rw [wv_inj, show r + B256 - y <<< n = r - y <<< n + B256 by omega, Nat.add_mod_right]
        have HY := Lib.hid (div_yes x y q r n HXQ.out HRR.out HQ.out hle)
        have hq1 : (wv q)[n / 64]? = some (.int .u64 (lb q (n / 64))) := wv_at q (n / 64) (by omega)
        have hq2 : bits .or .u64 (lb q (n / 64) : Nat) (IntKind.u64.wrap (2 ^ (n % 64))) = ((lb q (n / 64) ||| 2 ^ (n % 64) : Nat) : Int) := or_pow _ _ (lb_lt _ _) (by omega)
        have hq3 := wv_or q n hn' HQ.out
        clear hle
        go_wp2
        first | apply wp_region_env_g [0,1,2,3,4,5,6,7] [8,9,10] (by kernel_rfl) (by kernel_rfl) (by kernel_rfl) (by intro _ _ _ d _ h; cases d <;> exact h) _ | apply wp_region_env_p [0,1,2,3,4,5,6,7] [8,9,10] (by kernel_rfl) (by kernel_rfl) (by kernel_rfl) (by intro _ _ _ d _ h; cases d <;> exact h) _
        · intro A hA δ'
          simp only [pickOps_cons, pickOps_nil, pick1_zero, pick1_succ]
          repeat (go_big_quiet_step ((first | (go_at_call 39; exact Calls.pure_of_g (up_lt _ _ Hy.out _ (by omega))) | (go_at_call 66; exact Calls.pure_of_g (sub_any _ _ HR.out HU.out _)))))
          exact wpQuiet_nil hA.out.symm
        simp only [pickOps_cons, pickOps_nil, pick1_zero, pick1_succ]
        refine wpEnv_step ?_
        intro δe0
        go_wp2
        refine ⟨(by repeat (first | with_reducible exact grows_self _ _ | with_reducible apply grows_alloc | with_reducible apply grows_grow | with_reducible apply grows_drew | with_reducible exact grows_none _)), ?_⟩
        refine wpEnv_step ?_
        intro δe1
        go_wp2
        refine ⟨(by repeat (first | with_reducible exact grows_self _ _ | with_reducible apply grows_alloc | with_reducible apply grows_grow | with_reducible apply grows_drew | with_reducible exact grows_none _)), ?_⟩
        refine wpEnv_step ?_
        intro δe2
        go_wp2
        refine ⟨(by repeat (first | with_reducible exact grows_self _ _ | with_reducible apply grows_alloc | with_reducible apply grows_grow | with_reducible apply grows_drew | with_reducible exact grows_none _)), ?_⟩
        refine wpEnv_end ?_
        intro δ1
        try simp only [grow_grow]
        go_wp2
        first | refine wp_region_pure_tail_g 9 (by kernel_rfl) (by kernel_rfl) (by intro _ _ _ d _ h; cases d <;> exact h) ?_ | refine wp_region_pure_tail 9 (by kernel_rfl) (by kernel_rfl) (by intro _ _ _ d _ h; cases d <;> exact h) ?_
        simp only [List.take_succ_cons, List.take_zero, List.drop_succ_cons, List.drop_zero]
        repeat (go_big_quiet_step ((fail)))
        refine wpQuiet_nil ?_
        intro _ hw'
        obtain ⟨δ1, hw''⟩ := hw'
        subst hw''
        go_wp2
        obtain ⟨a1, a2, a3⟩ := HY.out
        exact ⟨⟨_, q + 2 ^ n, r - y <<< n, _, rfl, grow_alloc_grow _ _ _ _, a1, by rw [show ((n : Int) - 1 + 1).toNat = n by omega]; exact a2, by rw [show ((n : Int) - 1 + 1).toNat = n by omega]; exact a3, by omega⟩, by simp only [intOf]; omega⟩
      · have hd : decide (y <<< n ≤ r) = false := by simpa using hle
        have HY := Lib.hid (div_no x y q r n HRR.out HQ.out hle)
        clear hle
        go_wp2
        first | apply wp_region_env_g [0,1,2,3,4,5,6,7] [8,9,10] (by kernel_rfl) (by kernel_rfl) (by kernel_rfl) (by intro _ _ _ d _ h; cases d <;> exact h) _ | apply wp_region_env_p [0,1,2,3,4,5,6,7] [8,9,10] (by kernel_rfl) (by kernel_rfl) (by kernel_rfl) (by intro _ _ _ d _ h; cases d <;> exact h) _
        · intro A hA δ'
          simp only [pickOps_cons, pickOps_nil, pick1_zero, pick1_succ]
          repeat (go_big_quiet_step ((first | (go_at_call 39; exact Calls.pure_of_g (up_lt _ _ Hy.out _ (by omega))) | (go_at_call 66; exact Calls.pure_of_g (sub_any _ _ HR.out HU.out _)))))
          exact wpQuiet_nil hA.out.symm
        simp only [pickOps_cons, pickOps_nil, pick1_zero, pick1_succ]
        refine wpEnv_step ?_
        intro δe0
        go_wp2
        refine ⟨(by repeat (first | with_reducible exact grows_self _ _ | with_reducible apply grows_alloc | with_reducible apply grows_grow | with_reducible apply grows_drew | with_reducible exact grows_none _)), ?_⟩
        refine wpEnv_step ?_
        intro δe1
        go_wp2
        refine ⟨(by repeat (first | with_reducible exact grows_self _ _ | with_reducible apply grows_alloc | with_reducible apply grows_grow | with_reducible apply grows_drew | with_reducible exact grows_none _)), ?_⟩
        refine wpEnv_step ?_
        intro δe2
        go_wp2
        refine ⟨(by repeat (first | with_reducible exact grows_self _ _ | with_reducible apply grows_alloc | with_reducible apply grows_grow | with_reducible apply grows_drew | with_reducible exact grows_none _)), ?_⟩
        refine wpEnv_end ?_
        intro δ1
        try simp only [grow_grow]
        go_wp2
        obtain ⟨a2, a3⟩ := HY.out
        exact ⟨⟨_, q, r, _, rfl, grow_alloc_grow _ _ _ _, HXQ.out, by rw [show ((n : Int) - 1 + 1).toNat = n by omega]; exact a2, by rw [show ((n : Int) - 1 + 1).toNat = n by omega]; exact a3, by omega⟩, by simp only [intOf]; omega⟩
    · have HH : q = x / y ∧ r = x % y := by
        refine div_end x y q r hxq ?_
        rcases (show k + 1 ≤ 0 by omega) with h
        rw [show (k + 1).toNat = 0 by omega] at hr
        omega
      obtain ⟨rfl, rfl⟩ := HH
      have hn2 : ¬ (0 ≤ k) := hn
      clear hr hq hxq
      go_wp2
      go_region
      go_wp2
      refine bodyPost_ret (v := .tuple #[.agg (wv (x / y)), .agg (wv (x % y)), .bool true]) ?_ rfl ⟨rfl, (by repeat (first | with_reducible exact Grew.refl _ | with_reducible apply Grew.alloc | with_reducible apply Grew.grow | with_reducible apply Grew.drew | with_reducible apply Grew.drewN))⟩
      simp [results, Try.results41, go_sem]
end Go.Proofs.Ytommbfgagalckaa
/- wide's functions over numbers below 2^256, each with no premise. -/
namespace Go.Proofs.Ytommbfgagalckaa
set_option linter.unusedVariables false
set_option linter.unusedSimpArgs false
open Go.RowKit

/-- A number below 2^256. -/
structure Wd where
  n : Nat
  lt : n < B256
theorem Wd.ext' {a b : Wd} (h : a.n = b.n) : a = b := by cases a; cases b; cases h; rfl
theorem b256_pos : 0 < B256 := by unfold B256; omega
def Wd.zero : Wd := ⟨0, b256_pos⟩
theorem Wd.of_ex (n : Nat) : ∃ s : Wd, s.n = n % B256 := ⟨⟨n % B256, Nat.mod_lt _ b256_pos⟩, rfl⟩
/-- The number of a number: nothing computes it (the kernel would). -/
noncomputable def Wd.of (n : Nat) : Wd := Classical.choose (Wd.of_ex n)
theorem Wd.of_n (n : Nat) : (Wd.of n).n = n % B256 := Classical.choose_spec (Wd.of_ex n)
noncomputable def Wd.add (a b : Wd) : Wd := .of (a.n + b.n)
def Wd.addOk (a b : Wd) : Bool := decide (a.n + b.n < B256)
noncomputable def Wd.sub (a b : Wd) : Wd := .of (a.n + B256 - b.n)
def Wd.subOk (a b : Wd) : Bool := decide (b.n ≤ a.n)
noncomputable def Wd.div (a b : Wd) : Wd := .of (a.n / b.n)
noncomputable def Wd.rem (a b : Wd) : Wd := if b.n = 0 then .zero else .of (a.n % b.n)
def Wd.divOk (a b : Wd) : Bool := decide (b.n ≠ 0)
noncomputable def Wd.up (a : Wd) (k : Int) : Wd := if k < 0 then a else .of (a.n <<< k.toNat)
noncomputable def Wd.down (a : Wd) (k : Int) : Wd := if k < 0 then a else .of (a.n >>> k.toNat)
def Wd.cmp (a b : Wd) : Int := cmpN a.n b.n
theorem wv_of' (n : Nat) : wv (Wd.of n).n = wv n := by rw [Wd.of_n]; exact wv_mod n
theorem Wd.weq (a b : Wd) : weq a.n b.n = decide (a.n = b.n) := weq_lt a.lt b.lt

theorem wof_w (n : Nat) (h : n < 18446744073709551616) (w : World) :
    Calls Try.prog 19 #[.int .u64 n] w fun e w' => e = .returned (.agg (wv n)) ∧ Grew w w' := of_any n h w
theorem wadd_w (a b : Wd) (w : World) :
    Calls Try.prog 40 #[.agg (wv a.n), .agg (wv b.n)] w fun e w' => e = .returned (.tuple #[.agg (wv (a.add b).n), .bool (a.addOk b)]) ∧ Grew w w' := by
  unfold Wd.add; rw [wv_of']; exact add_any _ _ a.lt b.lt w
theorem sub_w (a b : Wd) (w : World) :
    Calls Try.prog 66 #[.agg (wv a.n), .agg (wv b.n)] w fun e w' => e = .returned (.tuple #[.agg (wv (a.sub b).n), .bool (a.subOk b)]) ∧ Grew w w' := by
  unfold Wd.sub; rw [wv_of']; exact sub_any _ _ a.lt b.lt w
theorem cmp_w (a b : Wd) (w : World) :
    Calls Try.prog 43 #[.agg (wv a.n), .agg (wv b.n)] w fun e w' => e = .returned (.int .i64 (a.cmp b)) ∧ Grew w w' := cmp_any _ _ a.lt b.lt w
theorem div_w (a b : Wd) (w : World) :
    Calls Try.prog 41 #[.agg (wv a.n), .agg (wv b.n)] w fun e w' => e = .returned (.tuple #[.agg (wv (a.div b).n), .agg (wv (a.rem b).n), .bool (a.divOk b)]) ∧ Grew w w' := by
  unfold Wd.div Wd.rem Wd.divOk
  by_cases h : b.n = 0
  · rw [if_pos h, wv_of', h, Nat.div_zero]; exact div_nil _ w
  · rw [if_neg h, wv_of', wv_of', show decide (b.n ≠ 0) = true by simpa using h]; exact div_some _ _ a.lt b.lt h w

set_option maxRecDepth 100000 in
set_option maxHeartbeats 1600000 in
theorem up_neg (x : Nat) (n : Int) (h : n < 0) (w : World) :
    Calls Try.prog 39 #[.agg (wv x), .int .i64 n] w fun e w' => e = .returned (.agg (wv x)) ∧ Grew w w' := by
  go_enter Try.func39, Try.ntmps39
  go_wp2
  refine bodyPost_ret (v := .agg (wv x)) ?_ rfl ⟨rfl, (by repeat (first | with_reducible exact Grew.refl _ | with_reducible apply Grew.alloc | with_reducible apply Grew.grow | with_reducible apply Grew.drew | with_reducible apply Grew.drewN))⟩
  simp [results, Try.results39, go_sem]
set_option maxRecDepth 100000 in
set_option maxHeartbeats 1600000 in
theorem up_far (x : Nat) (n : Int) (h : 256 ≤ n) (w : World) :
    Calls Try.prog 39 #[.agg (wv x), .int .i64 n] w fun e w' => e = .returned (.agg (wv 0)) ∧ Grew w w' := by
  have h0 : ¬ n < 0 := by omega
  go_enter Try.func39, Try.ntmps39
  go_wp2
  refine bodyPost_ret (v := .agg (wv 0)) ?_ rfl ⟨rfl, (by repeat (first | with_reducible exact Grew.refl _ | with_reducible apply Grew.alloc | with_reducible apply Grew.grow | with_reducible apply Grew.drew | with_reducible apply Grew.drewN))⟩
  simp [results, Try.results39, go_sem]
  try rfl
set_option maxRecDepth 100000 in
set_option maxHeartbeats 1600000 in
theorem down_neg (x : Nat) (n : Int) (h : n < 0) (w : World) :
    Calls Try.prog 44 #[.agg (wv x), .int .i64 n] w fun e w' => e = .returned (.agg (wv x)) ∧ Grew w w' := by
  go_enter Try.func44, Try.ntmps44
  go_wp2
  refine bodyPost_ret (v := .agg (wv x)) ?_ rfl ⟨rfl, (by repeat (first | with_reducible exact Grew.refl _ | with_reducible apply Grew.alloc | with_reducible apply Grew.grow | with_reducible apply Grew.drew | with_reducible apply Grew.drewN))⟩
  simp [results, Try.results44, go_sem]
set_option maxRecDepth 100000 in
set_option maxHeartbeats 1600000 in
theorem down_far (x : Nat) (n : Int) (h : 256 ≤ n) (w : World) :
    Calls Try.prog 44 #[.agg (wv x), .int .i64 n] w fun e w' => e = .returned (.agg (wv 0)) ∧ Grew w w' := by
  have h0 : ¬ n < 0 := by omega
  go_enter Try.func44, Try.ntmps44
  go_wp2
  refine bodyPost_ret (v := .agg (wv 0)) ?_ rfl ⟨rfl, (by repeat (first | with_reducible exact Grew.refl _ | with_reducible apply Grew.alloc | with_reducible apply Grew.grow | with_reducible apply Grew.drew | with_reducible apply Grew.drewN))⟩
  simp [results, Try.results44, go_sem]
  try rfl

theorem b256_pow : (B256 : Nat) = 2 ^ 256 := by decide +kernel
theorem up_big (x n : Nat) (h : 256 ≤ n) : wv (x <<< n) = wv 0 := by
  rw [wv_inj, Nat.shiftLeft_eq, Nat.zero_mod]
  have e : n = 256 + (n - 256) := by omega
  rw [e, Nat.pow_add, ← b256_pow, ← Nat.mul_assoc, Nat.mul_right_comm]
  exact Nat.mul_mod_left _ _
theorem down_big (x n : Nat) (hx : x < B256) (h : 256 ≤ n) : x >>> n = 0 := by
  rw [Nat.shiftRight_eq_div_pow]
  refine Nat.div_eq_of_lt (Nat.lt_of_lt_of_le hx ?_)
  rw [b256_pow]
  exact Nat.pow_le_pow_right (by decide) h

theorem up_w (a : Wd) (k : Int) (w : World) :
    Calls Try.prog 39 #[.agg (wv a.n), .int .i64 k] w fun e w' => e = .returned (.agg (wv (a.up k).n)) ∧ Grew w w' := by
  unfold Wd.up
  by_cases h : k < 0
  · rw [if_pos h]; exact up_neg _ _ h w
  · rw [if_neg h, wv_of']
    by_cases h2 : 256 ≤ k
    · rw [up_big _ _ (by omega)]; exact up_far _ _ h2 w
    · obtain ⟨n, rfl⟩ := Int.eq_ofNat_of_zero_le (show 0 ≤ k by omega)
      exact up_lt _ _ a.lt w (by omega)
theorem down_w (a : Wd) (k : Int) (w : World) :
    Calls Try.prog 44 #[.agg (wv a.n), .int .i64 k] w fun e w' => e = .returned (.agg (wv (a.down k).n)) ∧ Grew w w' := by
  unfold Wd.down
  by_cases h : k < 0
  · rw [if_pos h]; exact down_neg _ _ h w
  · rw [if_neg h, wv_of']
    by_cases h2 : 256 ≤ k
    · rw [down_big _ _ a.lt (by omega)]; exact down_far _ _ h2 w
    · obtain ⟨n, rfl⟩ := Int.eq_ofNat_of_zero_le (show 0 ≤ k by omega)
      exact down_lt _ _ a.lt w (by omega)
end Go.Proofs.Ytommbfgagalckaa
/- More on numbers below 2^256. -/
namespace Go.Proofs.Ytommbfgagalckaa
set_option linter.unusedVariables false
set_option linter.unusedSimpArgs false
open Go.RowKit

theorem small_b256 {n : Nat} (h : n < 1000) : n < B256 := by unfold B256; omega
theorem of_val {n : Nat} (h : n < B256) : (Wd.of n).n = n := by rw [Wd.of_n]; exact Nat.mod_eq_of_lt h
theorem Wd.add_n (a b : Wd) : (a.add b).n = (a.n + b.n) % B256 := Wd.of_n _
theorem Wd.sub_n (a b : Wd) : (a.sub b).n = (a.n + B256 - b.n) % B256 := Wd.of_n _
theorem cmpN_ge (x y : Nat) : decide (0 ≤ cmpN x y) = decide (y ≤ x) := by
  rw [Bool.eq_iff_iff, decide_eq_true_eq, decide_eq_true_eq]
  unfold cmpN; split <;> (try split) <;> omega
theorem cmpN_le (x y : Nat) : decide (cmpN x y ≤ 0) = decide (x ≤ y) := by
  rw [Bool.eq_iff_iff, decide_eq_true_eq, decide_eq_true_eq]
  unfold cmpN; split <;> (try split) <;> omega
theorem cmpN_pos (x y : Nat) : decide (0 < cmpN x y) = decide (y < x) := by
  rw [Bool.eq_iff_iff, decide_eq_true_eq, decide_eq_true_eq]
  unfold cmpN; split <;> (try split) <;> omega
theorem cmpN_neg (x y : Nat) : decide (cmpN x y < 0) = decide (x < y) := by
  rw [Bool.eq_iff_iff, decide_eq_true_eq, decide_eq_true_eq]
  unfold cmpN; split <;> (try split) <;> omega
theorem Wd.cmp_ge (a b : Wd) : decide (0 ≤ a.cmp b) = a.subOk b := cmpN_ge _ _
theorem Wd.cmp_le (a b : Wd) : decide (a.cmp b ≤ 0) = decide (a.n ≤ b.n) := cmpN_le _ _
theorem Wd.cmp_pos (a b : Wd) : decide (0 < a.cmp b) = decide (b.n < a.n) := cmpN_pos _ _
theorem Wd.cmp_neg (a b : Wd) : decide (a.cmp b < 0) = decide (a.n < b.n) := cmpN_neg _ _
theorem Wd.up_n (a : Wd) (n : Nat) : (a.up n).n = (a.n <<< n) % B256 := by
  unfold Wd.up; rw [if_neg (by omega), Wd.of_n, Int.toNat_natCast]
theorem Wd.down_n (a : Wd) (n : Nat) : (a.down n).n = a.n >>> n := by
  unfold Wd.down; rw [if_neg (by omega), Wd.of_n, Int.toNat_natCast]
  exact Nat.mod_eq_of_lt (Nat.lt_of_le_of_lt (Nat.shiftRight_le _ _) a.lt)
theorem of_wd (n : Nat) (h : n < 18446744073709551616) (w : World) :
    Calls Try.prog 19 #[.int .u64 n] w fun e w' => e = .returned (.agg (wv (Wd.of n).n)) ∧ Grew w w' := by rw [wv_of']; exact of_any n h w
theorem Wd.div_n (a b : Wd) : (a.div b).n = a.n / b.n := by
  unfold Wd.div; rw [Wd.of_n]; exact Nat.mod_eq_of_lt (Nat.lt_of_le_of_lt (Nat.div_le_self _ _) a.lt)
theorem Wd.rem_n (a b : Wd) (h : b.n ≠ 0) : (a.rem b).n = a.n % b.n := by
  unfold Wd.rem; rw [if_neg h, Wd.of_n]; exact Nat.mod_eq_of_lt (Nat.lt_of_le_of_lt (Nat.mod_le _ _) a.lt)
theorem Wd.add_ok {a b : Wd} (h : a.addOk b = true) : (a.add b).n = a.n + b.n := by
  unfold Wd.addOk at h; rw [Wd.add_n]; exact Nat.mod_eq_of_lt (by simpa using h)
theorem Wd.of_1 : (Wd.of 1).n = 1 := of_val (small_b256 (by decide))
theorem Wd.of_2 : (Wd.of 2).n = 2 := of_val (small_b256 (by decide))
theorem Wd.eq_of {a b : Nat} (h : a = b) : Go.Proofs.Ytommbfgagalckaa.weq a b = true := by subst h; unfold Go.Proofs.Ytommbfgagalckaa.weq; simp
theorem Wd.ne_of {a b : Wd} (h : a.n ≠ b.n) : Go.Proofs.Ytommbfgagalckaa.weq a.n b.n = false := by rw [weq_lt a.lt b.lt]; simpa using h
theorem Wd.ne_zero {a : Wd} (h : a.n ≠ 0) : Go.Proofs.Ytommbfgagalckaa.weq a.n 0 = false := by rw [weq_lt a.lt b256_pos]; simpa using h
/-- The other bits of a part. -/
def nt (n : Nat) : Nat := 18446744073709551615 - n
theorem not_cells (x : Nat) (h : x < B256) : #[Value.int .u64 (nt (lb x 0) : Nat), Value.int .u64 (nt (lb x 1) : Nat), Value.int .u64 (nt (lb x 2) : Nat), Value.int .u64 (nt (lb x 3) : Nat)] = wv (B256 - 1 - x) := by
  unfold nt
  have e := w4_lb x
  rw [Nat.mod_eq_of_lt h] at e
  have h0 := lb_lt x 0; have h1 := lb_lt x 1; have h2 := lb_lt x 2; have h3 := lb_lt x 3
  rw [wv_w4 (by omega) (by omega) (by omega) (by omega)]
  congr 1
  unfold w4 at *
  unfold B256 at *
  omega

end Go.Proofs.Ytommbfgagalckaa
/- The document's Of, Add, Cmp, half. -/
namespace Go.Proofs.Ytommbfgagalckaa
set_option linter.unusedVariables false
set_option linter.unusedSimpArgs false
open Go.RowKit

set_option maxHeartbeats 400000 in
theorem rof_any (n : Nat) (h : n < 18446744073709551616) (w : World) :
    Calls Try.prog 72 #[.int .u64 n] w fun e w' => e = .returned (.agg (wv n)) ∧ Grew w w' := by
  have hw := wv_of h
  go_enter Try.func72, Try.ntmps72
  go_wp2
  refine bodyPost_ret (v := .agg (wv n)) ?_ rfl ⟨rfl, (Grew.refl _).alloc _⟩
  simp [results, Try.results72, go_sem]
  exact hw.symm
theorem wrof_w (n : Nat) (h : n < 18446744073709551616) (w : World) :
    Calls Try.prog 72 #[.int .u64 n] w fun e w' => e = .returned (.agg (wv (Wd.of n).n)) ∧ Grew w w' := by rw [wv_of']; exact rof_any n h w

/-- Two parts, without what comes in. -/
def s2 (x y i : Nat) : Nat := (lb x i + lb y i) % 18446744073709551616
theorem s2_wrap (x y i : Nat) : IntKind.u64.wrap ((lb x i : Int) + (lb y i : Int)) = ((s2 x y i : Nat) : Int) := by
  rw [IntKind.wrap_u64]; unfold s2; omega
theorem s2_lt (x y i : Nat) : s2 x y i < 18446744073709551616 := Nat.mod_lt _ (by decide)
theorem sms_wrap (x y i : Nat) : IntKind.u64.wrap ((s2 x y i : Int) + (cys x y i : Int)) = ((sms x y i : Nat) : Int) := by
  rw [IntKind.wrap_u64]; unfold s2 sms sm; omega
theorem cys_succ (x y i : Nat) : cys x y (i + 1) = if s2 x y i < lb x i ∨ sms x y i < s2 x y i then 1 else 0 := by
  show cy (lb x i) (lb y i) (cys x y i) = _
  have h1 := lb_lt x i; have h2 := lb_lt y i; have h3 := cys_le x y i
  unfold s2 sms sm cy
  generalize lb x i = a at *; generalize lb y i = b at *; generalize cys x y i = c at *
  split <;> omega
def addF (x y k j : Nat) : Nat := if j < k then sms x y j else 0
def addC (x y k : Nat) : Array Value := #[.int .u64 (addF x y k 0), .int .u64 (addF x y k 1), .int .u64 (addF x y k 2), .int .u64 (addF x y k 3)]
theorem addC_0 (x y : Nat) : addC x y 0 = #[.int .u64 0, .int .u64 0, .int .u64 0, .int .u64 0] := rfl
theorem addC_set (x y k : Nat) (h : k < 4) : (addC x y k).setIfInBounds k (.int .u64 (sms x y k)) = addC x y (k + 1) := by
  rcases four k h with rfl | rfl | rfl | rfl <;> rfl
theorem addC_4 (x y : Nat) (hx : x < B256) (hy : y < B256) : addC x y 4 = wv (x + y) := add_cells x y hx hy
theorem addC_size (x y k : Nat) : (addC x y k).size = 4 := rfl
theorem addC_get (x y k : Nat) (h : k < 4) : (addC x y k)[k]? = some (.int .u64 (addF x y k k)) := by
  rcases four k h with rfl | rfl | rfl | rfl <;> rfl

set_option maxRecDepth 100000 in
set_option maxHeartbeats 1600000 in
theorem radd_any (x y : Nat) (hx : x < B256) (hy : y < B256) (w : World) :
    Calls Try.prog 75 #[.agg (wv x), .agg (wv y)] w fun e w' => e = .returned (.tuple #[.agg (wv (x + y)), .bool (decide (x + y < B256))]) ∧ Grew w w' := by
  have Hc := Lib.hid (addC_4 x y hx hy)
  have Ho := Lib.hid (add_over x y hx hy)
  clear hx hy
  go_enter Try.func75, Try.ntmps75
  go_wp2
  go_loopw [7, 8] (fun v n wr => ∃ (k : Nat) (δ : Junk), k ≤ 4 ∧ n = .int .i64 k ∧ v = .int .u64 (cys x y k) ∧
      wr = ((((w.alloc (.cells (wv x) 26)).alloc (.cells (wv y) 26)).alloc (.cells #[.int .u64 0, .int .u64 0, .int .u64 0, .int .u64 0] 26)).alloc (.cells (addC x y k) 26)).grow δ) (fun _ n _ => 4 - (intOf n).toNat)
  case atStart => exact ⟨0, ⟨#[], w.drawn⟩, by omega, rfl, rfl, by rw [addC_0]; exact (grow_self _).symm⟩
  case round =>
    obtain ⟨k, δ, hk, rfl, rfl, rfl⟩ := hrel
    by_cases hn : k < 4
    · have h1 : (wv x)[k]? = some (.int .u64 (lb x k)) := wv_at x k hn
      have h2 : (wv y)[k]? = some (.int .u64 (lb y k)) := wv_at y k hn
      have h3 := s2_wrap x y k
      have h4 := sms_wrap x y k
      have h5 := addC_set x y k hn
      have h6 := addC_get x y k hn
      have hcy := cys_succ x y k
      have HCY := Lib.hid hcy
      clear hcy
      have hcase : (decide (s2 x y k < lb x k) = true ∧ cys x y (k + 1) = 1) ∨ (decide (s2 x y k < lb x k) = false ∧ decide (sms x y k < s2 x y k) = true ∧ cys x y (k + 1) = 1) ∨ (decide (s2 x y k < lb x k) = false ∧ decide (sms x y k < s2 x y k) = false ∧ cys x y (k + 1) = 0) := by
        rw [HCY.out]
        by_cases a : s2 x y k < lb x k
        · exact .inl ⟨by simpa using a, by simp [a]⟩
        · by_cases b : sms x y k < s2 x y k
          · exact .inr (.inl ⟨by simpa using a, by simpa using b, by simp [b]⟩)
          · exact .inr (.inr ⟨by simpa using a, by simpa using b, by simp [a, b]⟩)
      clear HCY
      rcases hcase with ⟨a1, a2⟩ | ⟨a1, b1, a2⟩ | ⟨a1, b1, a2⟩
      all_goals
        have A2 := Lib.hid a2
        clear a2
        go_wp2
        first | refine wp_region_pure_lit_g (by kernel_rfl) (by kernel_rfl) ?_ | refine wp_region_pure_lit (by kernel_rfl) (by kernel_rfl) ?_
        repeat (go_big_quiet_step ((fail)))
        refine wpQuiet_nil ?_
        intro _ hw'
        obtain ⟨δ1, hw''⟩ := hw'
        subst hw''
        go_wp2
        exact ⟨⟨k + 1, _, by omega, by go_num, by rw [A2.out]; rfl, rfl⟩, by simp only [intOf]; omega⟩
    · obtain rfl : k = 4 := by omega
      rw [Hc.out]
      go_wp2
      refine bodyPost_ret (v := .tuple #[.agg (wv (x + y)), .bool (decide (x + y < B256))]) ?_ rfl ⟨rfl, (by repeat (first | with_reducible exact Grew.refl _ | with_reducible apply Grew.alloc | with_reducible apply Grew.grow | with_reducible apply Grew.drew | with_reducible apply Grew.drewN))⟩
      simp [results, Try.results75, go_sem]
      rw [Bool.eq_iff_iff, beq_iff_eq, decide_eq_true_eq]
      exact Ho.out
theorem radd_w (a b : Wd) (w : World) :
    Calls Try.prog 75 #[.agg (wv a.n), .agg (wv b.n)] w fun e w' => e = .returned (.tuple #[.agg (wv (a.add b).n), .bool (a.addOk b)]) ∧ Grew w w' := by
  unfold Wd.add; rw [wv_of']; exact radd_any _ _ a.lt b.lt w

theorem cmp_at (x y j : Nat) (hx : x < B256) (hy : y < B256) (hj : j < 4) (h : ∀ i, j < i → i < 4 → lb x i = lb y i) : (lb x j < lb y j → x < y) ∧ (lb y j < lb x j → y < x) := by
  have ex := w4_lb x
  have ey := w4_lb y
  rw [Nat.mod_eq_of_lt hx] at ex
  rw [Nat.mod_eq_of_lt hy] at ey
  clear hx hy
  have := lb_lt x 0; have := lb_lt x 1; have := lb_lt x 2; have := lb_lt x 3
  have := lb_lt y 0; have := lb_lt y 1; have := lb_lt y 2; have := lb_lt y 3
  have h1 := h 1; have h2 := h 2; have h3 := h 3
  unfold w4 at ex ey
  clear h
  rcases four j hj with rfl | rfl | rfl | rfl
  all_goals
    generalize lb x 0 = x0 at *; generalize lb x 1 = x1 at *; generalize lb x 2 = x2 at *; generalize lb x 3 = x3 at *
    generalize lb y 0 = y0 at *; generalize lb y 1 = y1 at *; generalize lb y 2 = y2 at *; generalize lb y 3 = y3 at *
    constructor <;> intro hlt
    all_goals
      try have e1 := h1 (by omega) (by omega)
      try have e2 := h2 (by omega) (by omega)
      try have e3 := h3 (by omega) (by omega)
      clear h1 h2 h3
      omega
theorem cmp_none (x y : Nat) (hx : x < B256) (hy : y < B256) (h : ∀ i, i < 4 → lb x i = lb y i) : x = y := by
  have := lb_inj (h 0 (by omega)) (h 1 (by omega)) (h 2 (by omega)) (h 3 (by omega))
  rwa [Nat.mod_eq_of_lt hx, Nat.mod_eq_of_lt hy] at this

set_option maxRecDepth 100000 in
set_option maxHeartbeats 1600000 in
theorem rcmp_any (x y : Nat) (hx : x < B256) (hy : y < B256) (w : World) :
    Calls Try.prog 73 #[.agg (wv x), .agg (wv y)] w fun e w' => e = .returned (.int .i64 (cmpN x y)) ∧ Grew w w' := by
  have H1 := Lib.hid (fun j hj h => cmp_at x y j hx hy hj h)
  have H2 := Lib.hid (cmp_none x y hx hy)
  clear hx hy
  go_enter Try.func73, Try.ntmps73
  go_wp2
  go_loopw [5] (fun n wr => ∃ (k : Nat) (δ : Junk), k ≤ 4 ∧ n = .int .i64 ((k : Int) - 1) ∧ (∀ i, k ≤ i → i < 4 → lb x i = lb y i) ∧
      wr = ((w.alloc (.cells (wv x) 26)).alloc (.cells (wv y) 26)).grow δ) (fun n _ => (intOf n + 1).toNat)
  case atStart => exact ⟨4, ⟨#[], w.drawn⟩, by omega, rfl, fun i h1 h2 => by omega, (grow_self _).symm⟩
  case round =>
    obtain ⟨k, δ, hk, rfl, hall, rfl⟩ := hrel
    cases k with
    | zero =>
      have hxy : x = y := H2.out fun i hi => hall i (by omega) hi
      subst hxy
      clear hall
      go_wp2
      go_ret
      exact ⟨congrArg (fun n : Int => Ending.returned (.int .i64 n)) (cmpN_eq rfl).symm, (by repeat (first | with_reducible exact Grew.refl _ | with_reducible apply Grew.alloc | with_reducible apply Grew.grow | with_reducible apply Grew.drew | with_reducible apply Grew.drewN))⟩
    | succ k =>
      have e0 : ((k + 1 : Nat) : Int) - 1 = (k : Int) := by omega
      rw [e0]
      have hn : k < 4 := by omega
      have h1 : (wv x)[k]? = some (.int .u64 (lb x k)) := wv_at x k hn
      have h2 : (wv y)[k]? = some (.int .u64 (lb y k)) := wv_at y k hn
      have hk1 := H1.out k hn fun i hi hi2 => hall i (by omega) hi2
      have HA := Lib.hid hall
      have HK := Lib.hid hk1
      clear hall hk1 e0
      have hcase : (decide (lb x k < lb y k) = true ∧ x < y) ∨ (decide (lb x k < lb y k) = false ∧ decide (lb y k < lb x k) = true ∧ y < x) ∨ (decide (lb x k < lb y k) = false ∧ decide (lb y k < lb x k) = false ∧ lb x k = lb y k) := by
        rcases Nat.lt_trichotomy (lb x k) (lb y k) with h | h | h
        · exact .inl ⟨by simpa using h, HK.out.1 h⟩
        · exact .inr (.inr ⟨by simp; omega, by simp; omega, h⟩)
        · exact .inr (.inl ⟨by simp; omega, by simpa using h, HK.out.2 h⟩)
      rcases hcase with ⟨a1, a2⟩ | ⟨a1, b1, a2⟩ | ⟨a1, b1, a2⟩
      · go_wp2
        first | refine wp_region_pure_lit_g (by kernel_rfl) (by kernel_rfl) ?_ | refine wp_region_pure_lit (by kernel_rfl) (by kernel_rfl) ?_
        repeat (go_big_quiet_step ((fail)))
        refine wpQuiet_nil ?_
        intro _ hw'
        obtain ⟨δ1, hw''⟩ := hw'
        subst hw''
        go_wp2
        go_ret
        exact ⟨congrArg (fun n : Int => Ending.returned (.int .i64 n)) (cmpN_lt a2).symm, (by repeat (first | with_reducible exact Grew.refl _ | with_reducible apply Grew.alloc | with_reducible apply Grew.grow | with_reducible apply Grew.drew | with_reducible apply Grew.drewN))⟩
      · go_wp2
        first | refine wp_region_pure_lit_g (by kernel_rfl) (by kernel_rfl) ?_ | refine wp_region_pure_lit (by kernel_rfl) (by kernel_rfl) ?_
        repeat (go_big_quiet_step ((fail)))
        refine wpQuiet_nil ?_
        intro _ hw'
        obtain ⟨δ1, hw''⟩ := hw'
        subst hw''
        go_wp2
        first | refine wp_region_pure_lit_g (by kernel_rfl) (by kernel_rfl) ?_ | refine wp_region_pure_lit (by kernel_rfl) (by kernel_rfl) ?_
        repeat (go_big_quiet_step ((fail)))
        refine wpQuiet_nil ?_
        intro _ hw'
        obtain ⟨δ1, hw''⟩ := hw'
        subst hw''
        go_wp2
        go_ret
        exact ⟨congrArg (fun n : Int => Ending.returned (.int .i64 n)) (cmpN_gt a2).symm, (by repeat (first | with_reducible exact Grew.refl _ | with_reducible apply Grew.alloc | with_reducible apply Grew.grow | with_reducible apply Grew.drew | with_reducible apply Grew.drewN))⟩
      · have A2 := Lib.hid a2
        clear a2
        go_wp2
        first | refine wp_region_pure_lit_g (by kernel_rfl) (by kernel_rfl) ?_ | refine wp_region_pure_lit (by kernel_rfl) (by kernel_rfl) ?_
        repeat (go_big_quiet_step ((fail)))
        refine wpQuiet_nil ?_
        intro _ hw'
        obtain ⟨δ1, hw''⟩ := hw'
        subst hw''
        go_wp2
        first | refine wp_region_pure_lit_g (by kernel_rfl) (by kernel_rfl) ?_ | refine wp_region_pure_lit (by kernel_rfl) (by kernel_rfl) ?_
        repeat (go_big_quiet_step ((fail)))
        refine wpQuiet_nil ?_
        intro _ hw'
        obtain ⟨δ1, hw''⟩ := hw'
        subst hw''
        go_wp2
        exact ⟨⟨k, _, by omega, rfl, fun i h1 h2 => by
          by_cases hi : i = k
          · subst hi; exact A2.out
          · exact HA.out i (by omega) h2, rfl⟩, by simp only [intOf]; omega⟩
theorem rcmp_w (a b : Wd) (w : World) :
    Calls Try.prog 73 #[.agg (wv a.n), .agg (wv b.n)] w fun e w' => e = .returned (.int .i64 (a.cmp b)) ∧ Grew w w' := rcmp_any _ _ a.lt b.lt w

/-- What comes down into the part below. -/
def hg (x i : Nat) : Nat := lb x i % 2 * 9223372036854775808
def hl (x i : Nat) : Nat := lb x i / 2 + hg x (i + 1)
theorem hg_eq (x i : Nat) : (lb x i : Int) % 2 * 9223372036854775808 = ((hg x i : Nat) : Int) := by unfold hg; omega
theorem half_parts (x : Nat) (hx : x < B256) : #[Value.int .u64 (hl x 0), .int .u64 (hl x 1), .int .u64 (hl x 2), .int .u64 (lb x 3 / 2 : Nat)] = wv (x >>> 1) := by
  have ex := w4_lb x
  rw [Nat.mod_eq_of_lt hx] at ex
  have := lb_lt x 0; have := lb_lt x 1; have := lb_lt x 2; have := lb_lt x 3
  rw [wv_w4 (by unfold hl hg; omega) (by unfold hl hg; omega) (by unfold hl hg; omega) (by omega)]
  congr 1
  rw [Nat.shiftRight_eq_div_pow]
  unfold hl hg
  unfold w4 at *
  simp only [Nat.zero_add, Nat.reduceAdd]
  omega
theorem hl_eq (x i : Nat) (hi : i < 3) : (lb x i : Int) / 2 + (hg x (i + 1) : Int) = ((hl x i : Nat) : Int) := by unfold hl; omega
theorem hl_lt (x i : Nat) : hl x i < 18446744073709551616 := by
  have := lb_lt x i; unfold hl hg; omega

set_option maxRecDepth 100000 in
set_option maxHeartbeats 1600000 in
theorem half_any (x : Nat) (hx : x < B256) (w : World) :
    Calls Try.prog 85 #[.agg (wv x)] w fun e w' => e = .returned (.agg (wv (x >>> 1))) ∧ Grew w w' := by
  have Hc := Lib.hid (half_parts x hx)
  clear hx
  have b0 := lb_lt x 0
  have b1 := lb_lt x 1
  have b2 := lb_lt x 2
  have b3 := lb_lt x 3
  go_enter Try.func85, Try.ntmps85
  go_wp2
  refine wp_loop_rounds 5 ?_
  iterate 4
    rw [rounds_succ]
    go_wp2
  rw [rounds_succ]
  go_wp2
  refine bodyPost_ret (v := .agg (wv (x >>> 1))) ?_ rfl ⟨rfl, (by repeat (first | with_reducible exact Grew.refl _ | with_reducible apply Grew.alloc | with_reducible apply Grew.grow | with_reducible apply Grew.drew | with_reducible apply Grew.drewN))⟩
  simp [results, Try.results85, go_sem]
  have e0 := hl_eq x 0 (by omega)
  have e1 := hl_eq x 1 (by omega)
  have e2 := hl_eq x 2 (by omega)
  rw [← hg_eq] at e0 e1 e2
  rw [e0, e1, e2, ← Hc.out]
  rfl
theorem half_w (a : Wd) (w : World) :
    Calls Try.prog 85 #[.agg (wv a.n)] w fun e w' => e = .returned (.agg (wv (a.down 1).n)) ∧ Grew w w' := by
  rw [show (1 : Int) = ((1 : Nat) : Int) from rfl, Wd.down_n]; exact half_any _ a.lt w
end Go.Proofs.Ytommbfgagalckaa
/- The document's Sub, Up, Down. -/
namespace Go.Proofs.Ytommbfgagalckaa
set_option linter.unusedVariables false
set_option linter.unusedSimpArgs false
open Go.RowKit

theorem nt_eq (n : Nat) (h : n < 18446744073709551616) : (18446744073709551615 : Int) - (n : Int) = ((nt n : Nat) : Int) := by unfold nt; omega
set_option maxRecDepth 100000 in
set_option maxHeartbeats 1600000 in
theorem rsub_w (a b : Wd) (w : World) :
    Calls Try.prog 86 #[.agg (wv a.n), .agg (wv b.n)] w fun e w' => e = .returned (.tuple #[.agg (wv (a.sub b).n), .bool (a.subOk b)]) ∧ Grew w w' := by
  have hc := not_cells b.n b.lt
  obtain ⟨r, hr⟩ : ∃ r : Wd, r.n = B256 - 1 - b.n := ⟨⟨B256 - 1 - b.n, by have := b.lt; omega⟩, rfl⟩
  rw [← hr] at hc
  have n0 := nt_eq (lb b.n 0) (lb_lt _ _)
  have n1 := nt_eq (lb b.n 1) (lb_lt _ _)
  have n2 := nt_eq (lb b.n 2) (lb_lt _ _)
  have n3 := nt_eq (lb b.n 3) (lb_lt _ _)
  have b0 := lb_lt b.n 0
  have b1 := lb_lt b.n 1
  have b2 := lb_lt b.n 2
  have b3 := lb_lt b.n 3
  have hg : decide (0 ≤ a.cmp b) = a.subOk b := Wd.cmp_ge a b
  have Hf : Hid (((a.add r).add (Wd.of 1)).n = (a.sub b).n) := by
    refine (?_ : _ = _)
    have ha := a.lt; have hb := b.lt
    rw [Wd.add_n, Wd.add_n, Wd.sub_n, hr, Wd.of_1]
    unfold B256 at *
    omega
  clear hr
  go_enter Try.func86, Try.ntmps86
  go_wp2
  refine wp_loop_rounds 5 ?_
  iterate 4
    rw [rounds_succ]
    go_wp2
  rw [rounds_succ]
  go_wp2_with (go_at_call 75; refine (radd_w _ r _).mono ?_; rintro e w' ⟨rfl, δ, rfl⟩)
  first | apply wp_region_env_g [0,1,2,3,4,5] [6,7,8] (by kernel_rfl) (by kernel_rfl) (by kernel_rfl) (by intro _ _ _ d _ h; cases d <;> exact h) _ | apply wp_region_env_p [0,1,2,3,4,5] [6,7,8] (by kernel_rfl) (by kernel_rfl) (by kernel_rfl) (by intro _ _ _ d _ h; cases d <;> exact h) _
  · intro A hA δ'
    simp only [pickOps_cons, pickOps_nil, pick1_zero, pick1_succ]
    repeat (go_big_quiet_step ((first | (go_at_call 72; exact Calls.pure_of_g (wrof_w _ (by decide) _)) | (go_at_call 75; exact Calls.pure_of_g (radd_w _ _ _)))))
    exact wpQuiet_nil hA.out.symm
  simp only [pickOps_cons, pickOps_nil, pick1_zero, pick1_succ]
  refine wpEnv_step ?_
  intro δe0
  go_wp2
  refine ⟨(by repeat (first | with_reducible exact grows_self _ _ | with_reducible apply grows_alloc | with_reducible apply grows_grow | with_reducible apply grows_drew | with_reducible exact grows_none _)), ?_⟩
  refine wpEnv_step ?_
  intro δe1
  go_wp2
  refine ⟨(by repeat (first | with_reducible exact grows_self _ _ | with_reducible apply grows_alloc | with_reducible apply grows_grow | with_reducible apply grows_drew | with_reducible exact grows_none _)), ?_⟩
  refine wpEnv_step ?_
  intro δe2
  go_wp2
  refine ⟨(by repeat (first | with_reducible exact grows_self _ _ | with_reducible apply grows_alloc | with_reducible apply grows_grow | with_reducible apply grows_drew | with_reducible exact grows_none _)), ?_⟩
  refine wpEnv_end ?_
  intro δ1
  try simp only [grow_grow]
  go_wp2
  first | apply wp_region_store_g [0,1,2,3,4] [5,6] (by kernel_rfl) (by kernel_rfl) (by kernel_rfl) (by intro _ _ _ d _ h; cases d <;> exact h) _ | apply wp_region_store_p [0,1,2,3,4] [5,6] (by kernel_rfl) (by kernel_rfl) (by kernel_rfl) (by intro _ _ _ d _ h; cases d <;> exact h) _
  · intro A hA δ'
    simp only [pickOps_cons, pickOps_nil, pick1_zero, pick1_succ]
    repeat (go_big_quiet_step ((go_at_call 73; exact Calls.pure_of_g (rcmp_w _ _ _))))
    exact wpQuiet_nil hA.out.symm
  simp only [pickOps_cons, pickOps_nil, pick1_zero, pick1_succ]
  refine wpEnv_step ?_
  intro δe0
  go_wp2
  refine ⟨(by first | with_reducible exact twoW_right _ _ _ | with_reducible exact twoW_self _ _ | (simp only [grow_grow]; exact twoW_right _ _ _)), ?_⟩
  refine wpEnv_step ?_
  intro δe1
  go_wp2
  refine ⟨(by first | with_reducible exact twoW_right _ _ _ | with_reducible exact twoW_self _ _ | (simp only [grow_grow]; exact twoW_right _ _ _)), ?_⟩
  refine wpEnv_end ?_
  intro δ1
  try simp only [grow_grow]
  rotate_left
  · intro A hA δ'
    simp only [pickOps_cons, pickOps_nil, pick1_zero, pick1_succ]
    repeat (go_big_quiet_step ((go_at_call 73; exact Calls.pure_of_g (rcmp_w _ _ _))))
    exact wpQuiet_nil hA.out.symm
  go_wp2
  refine bodyPost_ret (v := .tuple #[.agg (wv (a.sub b).n), .bool (a.subOk b)]) ?_ rfl ⟨rfl, (by repeat (first | with_reducible exact Grew.refl _ | with_reducible apply Grew.alloc | with_reducible apply Grew.grow | with_reducible apply Grew.drew | with_reducible apply Grew.drewN))⟩
  simp [results, Try.results86, go_sem]
  rw [Hf.out]

theorem grow_alloc' (X : World) (δ : Junk) (o : Obj) : (X.grow δ).alloc o = X.grow ⟨δ.objs ++ #[o], δ.drawn⟩ := by rw [alloc_is_grow, grow_grow]; rfl
theorem Wd.up_0 (a : Wd) : (a.up 0).n = a.n := by
  have := a.up_n 0
  rw [show ((0 : Nat) : Int) = 0 from rfl, Nat.shiftLeft_zero, Nat.mod_eq_of_lt a.lt] at this
  exact this
theorem Wd.up_succ (a : Wd) (k : Nat) : ((a.up k).add (a.up k)).n = (a.up ((k : Int) + 1)).n := by
  rw [show (k : Int) + 1 = ((k + 1 : Nat) : Int) by omega, Wd.add_n, Wd.up_n, Wd.up_n, Nat.shiftLeft_succ, ← Nat.add_mod, Nat.two_mul]
theorem Wd.up_256 (a : Wd) (n : Int) (h : 256 ≤ n) : (a.up n).n = 0 := by
  obtain ⟨k, rfl⟩ := Int.eq_ofNat_of_zero_le (show 0 ≤ n by omega)
  have := up_big a.n k (by omega)
  rw [Wd.up_n]
  have h2 := wv_inj.1 this
  simpa using h2
theorem Wd.up_neg (a : Wd) (n : Int) (h : n < 0) : a.up n = a := by unfold Wd.up; rw [if_pos h]
theorem Wd.down_0 (a : Wd) : (a.down 0).n = a.n := by
  have := a.down_n 0
  rw [show ((0 : Nat) : Int) = 0 from rfl, Nat.shiftRight_zero] at this
  exact this
theorem Wd.down_succ (a : Wd) (k : Nat) : ((a.down k).down 1).n = (a.down ((k : Int) + 1)).n := by
  rw [show (k : Int) + 1 = ((k + 1 : Nat) : Int) by omega, show (1 : Int) = ((1 : Nat) : Int) from rfl, Wd.down_n, Wd.down_n, Wd.down_n, Nat.shiftRight_add]
theorem Wd.down_256 (a : Wd) (n : Int) (h : 256 ≤ n) : (a.down n).n = 0 := by
  obtain ⟨k, rfl⟩ := Int.eq_ofNat_of_zero_le (show 0 ≤ n by omega)
  rw [Wd.down_n]; exact down_big _ _ a.lt (by omega)
theorem Wd.down_neg (a : Wd) (n : Int) (h : n < 0) : a.down n = a := by unfold Wd.down; rw [if_pos h]

set_option maxRecDepth 100000 in
set_option maxHeartbeats 1600000 in
theorem rup_w (a : Wd) (n : Int) (w : World) :
    Calls Try.prog 71 #[.agg (wv a.n), .int .i64 n] w fun e w' => e = .returned (.agg (wv (a.up n).n)) ∧ Grew w w' := by
  by_cases hb : 256 ≤ n
  · have Hf := Lib.hid (a.up_256 n hb)
    have hd : decide (256 ≤ n) = true := decide_eq_true hb
    clear hb
    go_enter Try.func71, Try.ntmps71
    go_wp2
    refine bodyPost_ret (v := .agg (wv (a.up n).n)) ?_ rfl ⟨rfl, (by repeat (first | with_reducible exact Grew.refl _ | with_reducible apply Grew.alloc | with_reducible apply Grew.grow | with_reducible apply Grew.drew | with_reducible apply Grew.drewN))⟩
    simp [results, Try.results71, go_sem]
    rw [Hf.out]; rfl
  · have hd : decide (256 ≤ n) = false := decide_eq_false hb
    have hm : n.toNat < 256 := by omega
    obtain ⟨m, hmn⟩ : ∃ m : Nat, m = n.toNat := ⟨_, rfl⟩
    have Hm := Lib.hid hmn
    have h0 := Lib.hid (Wd.up_0 a)
    have Hf : Hid ((a.up m).n = (a.up n).n) := by
      refine (?_ : _ = _)
      by_cases hneg : n < 0
      · rw [a.up_neg n hneg, hmn, show n.toNat = 0 by omega]; exact a.up_0
      · rw [hmn, show ((n.toNat : Nat) : Int) = n by omega]
    rw [← hmn] at hm
    clear hb hmn
    go_enter Try.func71, Try.ntmps71
    go_wp2
    go_loopw [5] (fun v wr => ∃ (k : Nat) (δ : Junk), k ≤ m ∧ v = .int .i64 k ∧
      wr = ((w.alloc (.cells (wv (a.up k).n) 26)).alloc (.cells #[.int .u64 0, .int .u64 0, .int .u64 0, .int .u64 0] 26)).grow δ) (fun v _ => m - (intOf v).toNat)
    case atStart => exact ⟨0, ⟨#[], w.drawn⟩, by omega, rfl, by rw [show (((0 : Nat) : Int)) = 0 from rfl, h0.out]; exact (grow_self _).symm⟩
    case round =>
      obtain ⟨k, δ, hk, rfl, rfl⟩ := hrel
      have hs := Wd.up_succ a k
      by_cases hn : k < m
      · have hlt : decide ((k : Int) < n) = true := decide_eq_true (by have := Hm.out; omega)
        clear Hf
        go_wp2_with (go_at_call 75; refine (radd_w _ _ _).mono ?_; rintro e w' ⟨rfl, δ, rfl⟩)
        exact ⟨⟨k + 1, _, by omega, by go_num, by rw [show ((k + 1 : Nat) : Int) = (k : Int) + 1 by omega]; exact grow_alloc' _ _ _⟩, by simp only [intOf]; omega⟩
      · have hlt : decide ((k : Int) < n) = false := decide_eq_false (by have := Hm.out; omega)
        obtain rfl : k = m := by omega
        clear hs
        go_wp2
        refine bodyPost_ret (v := .agg (wv (a.up n).n)) ?_ rfl ⟨rfl, (by repeat (first | with_reducible exact Grew.refl _ | with_reducible apply Grew.alloc | with_reducible apply Grew.grow | with_reducible apply Grew.drew | with_reducible apply Grew.drewN))⟩
        simp [results, Try.results71, go_sem]
        rw [Hf.out]

set_option maxRecDepth 100000 in
set_option maxHeartbeats 1600000 in
theorem rdown_w (a : Wd) (n : Int) (w : World) :
    Calls Try.prog 74 #[.agg (wv a.n), .int .i64 n] w fun e w' => e = .returned (.agg (wv (a.down n).n)) ∧ Grew w w' := by
  by_cases hb : 256 ≤ n
  · have Hf := Lib.hid (a.down_256 n hb)
    have hd : decide (256 ≤ n) = true := decide_eq_true hb
    clear hb
    go_enter Try.func74, Try.ntmps74
    go_wp2
    refine bodyPost_ret (v := .agg (wv (a.down n).n)) ?_ rfl ⟨rfl, (by repeat (first | with_reducible exact Grew.refl _ | with_reducible apply Grew.alloc | with_reducible apply Grew.grow | with_reducible apply Grew.drew | with_reducible apply Grew.drewN))⟩
    simp [results, Try.results74, go_sem]
    rw [Hf.out]; rfl
  · have hd : decide (256 ≤ n) = false := decide_eq_false hb
    have hm : n.toNat < 256 := by omega
    obtain ⟨m, hmn⟩ : ∃ m : Nat, m = n.toNat := ⟨_, rfl⟩
    have Hm := Lib.hid hmn
    have h0 := Lib.hid (Wd.down_0 a)
    have Hf : Hid ((a.down m).n = (a.down n).n) := by
      refine (?_ : _ = _)
      by_cases hneg : n < 0
      · rw [a.down_neg n hneg, hmn, show n.toNat = 0 by omega]; exact a.down_0
      · rw [hmn, show ((n.toNat : Nat) : Int) = n by omega]
    rw [← hmn] at hm
    clear hb hmn
    go_enter Try.func74, Try.ntmps74
    go_wp2
    go_loopw [5] (fun v wr => ∃ (k : Nat) (δ : Junk), k ≤ m ∧ v = .int .i64 k ∧
      wr = ((w.alloc (.cells (wv (a.down k).n) 26)).alloc (.cells #[.int .u64 0, .int .u64 0, .int .u64 0, .int .u64 0] 26)).grow δ) (fun v _ => m - (intOf v).toNat)
    case atStart => exact ⟨0, ⟨#[], w.drawn⟩, by omega, rfl, by rw [show (((0 : Nat) : Int)) = 0 from rfl, h0.out]; exact (grow_self _).symm⟩
    case round =>
      obtain ⟨k, δ, hk, rfl, rfl⟩ := hrel
      have hs := Wd.down_succ a k
      by_cases hn : k < m
      · have hlt : decide ((k : Int) < n) = true := decide_eq_true (by have := Hm.out; omega)
        clear Hf
        go_wp2_with (go_at_call 85; refine (half_w _ _).mono ?_; rintro e w' ⟨rfl, δ, rfl⟩)
        exact ⟨⟨k + 1, _, by omega, by go_num, by rw [show ((k + 1 : Nat) : Int) = (k : Int) + 1 by omega]⟩, by simp only [intOf]; omega⟩
      · have hlt : decide ((k : Int) < n) = false := decide_eq_false (by have := Hm.out; omega)
        obtain rfl : k = m := by omega
        clear hs
        go_wp2
        refine bodyPost_ret (v := .agg (wv (a.down n).n)) ?_ rfl ⟨rfl, (by repeat (first | with_reducible exact Grew.refl _ | with_reducible apply Grew.alloc | with_reducible apply Grew.grow | with_reducible apply Grew.drew | with_reducible apply Grew.drewN))⟩
        simp [results, Try.results74, go_sem]
        rw [Hf.out]
end Go.Proofs.Ytommbfgagalckaa
/- The document's Div. -/
namespace Go.Proofs.Ytommbfgagalckaa
set_option linter.unusedVariables false
set_option linter.unusedSimpArgs false
open Go.RowKit

def incP (z : Nat) : Nat := lb z 0 + 1
noncomputable def Wd.inc (z : Wd) : Wd := .of (z.n + 1)
theorem Wd.inc_n {z : Wd} (h : z.n % 2 = 0) : z.inc.n = z.n + 1 := by
  unfold Wd.inc; rw [Wd.of_n]
  have := z.lt
  apply Nat.mod_eq_of_lt
  unfold B256 at *; omega
theorem inc_wrap {z : Wd} (h : z.n % 2 = 0) : IntKind.u64.wrap ((lb z.n 0 : Int) + 1) = ((incP z.n : Nat) : Int) := by
  have h1 := lb_lt z.n 0
  have h2 : lb z.n 0 % 2 = 0 := by rw [lb0]; omega
  rw [IntKind.wrap_u64]; unfold incP; omega
theorem inc_cells {z : Wd} (h : z.n % 2 = 0) : #[Value.int .u64 (incP z.n), Value.int .u64 (lb z.n 1), Value.int .u64 (lb z.n 2), Value.int .u64 (lb z.n 3)] = wv z.inc.n := by
  have h1 := lb_lt z.n 0; have h2 : lb z.n 0 % 2 = 0 := by rw [lb0]; omega
  have e := w4_lb z.n
  rw [Nat.mod_eq_of_lt z.lt] at e
  rw [Wd.inc_n h, wv_w4 (by unfold incP; omega) (lb_lt _ _) (lb_lt _ _) (lb_lt _ _)]
  congr 1
  unfold incP
  unfold w4 at *
  omega
theorem twice_even (z : Wd) : (z.add z).n % 2 = 0 := by
  rw [Wd.add_n]; have := z.lt; unfold B256 at *; omega

/-- The next bit from above. -/
def bitN (x k : Nat) : Nat := if 57896044618658097711785492504343953926634992332820282019728792003956564819968 ≤ (x <<< k) % B256 then 1 else 0
theorem shr_bit (x k : Nat) (hk : k < 256) : x >>> (256 - (k + 1)) = 2 * (x >>> (256 - k)) + bitN x k := by
  have e1 : x >>> (256 - k) = (x >>> (256 - (k + 1))) / 2 := by
    rw [show 256 - k = (256 - (k + 1)) + 1 by omega, Nat.shiftRight_add, Nat.shiftRight_eq_div_pow (x >>> (256 - (k + 1)))]
  have e2 : bitN x k = x >>> (256 - (k + 1)) % 2 := by
    have h1 : ((x <<< k) % B256).testBit 255 = x.testBit (256 - (k + 1)) := by
      rw [b256_pow, Nat.testBit_mod_two_pow, Nat.testBit_shiftLeft]
      simp
      have : k ≤ 255 := by omega
      simp [this]
    have h2 : ∀ z, z < B256 → z.testBit 255 = decide (57896044618658097711785492504343953926634992332820282019728792003956564819968 ≤ z) := fun z hz => by
      rw [Nat.testBit_eq_decide_div_mod_eq, show (2 : Nat) ^ 255 = 57896044618658097711785492504343953926634992332820282019728792003956564819968 by decide +kernel, Bool.eq_iff_iff, decide_eq_true_eq, decide_eq_true_eq]
      unfold B256 at hz
      omega
    have h3 := h2 _ (Nat.mod_lt (x <<< k) b256_pos)
    rw [h1, Nat.testBit_eq_decide_div_mod_eq, ← Nat.shiftRight_eq_div_pow] at h3
    unfold bitN
    by_cases hc : 57896044618658097711785492504343953926634992332820282019728792003956564819968 ≤ (x <<< k) % B256
    · rw [if_pos hc]
      rw [decide_eq_true hc, decide_eq_true_eq] at h3
      exact h3.symm
    · rw [if_neg hc]
      rw [decide_eq_false hc, decide_eq_false_iff_not] at h3
      omega
  rw [e1, e2]; omega
theorem bit_test (x k : Nat) : decide ((9223372036854775808 : Int) ≤ (lb ((x <<< k) % B256) 3 : Int)) = decide (bitN x k = 1) := by
  have hz := Nat.mod_lt (x <<< k) b256_pos
  unfold bitN
  generalize (x <<< k) % B256 = z at *
  rw [Bool.eq_iff_iff, decide_eq_true_eq, decide_eq_true_eq, lb3]
  unfold B256 at hz
  split <;> omega
theorem bit_le (x k : Nat) : bitN x k = 0 ∨ bitN x k = 1 := by unfold bitN; split <;> simp

/-- One round: what becomes of how often, and of what is left. -/
theorem div_round {x y k : Nat} {Q L : Wd} (hx : x < B256) (hy : y < B256) (hL : L.n < y) (hq : x >>> (256 - k) = Q.n * y + L.n) (hk : k < 256) (X : Wd) (hX : X.n = (L.add L).n + bitN x k) :
    (L.addOk L = false ∨ y ≤ X.n → ∀ b : Wd, b.n = y → (X.sub b).n < y ∧ (Q.add Q).inc.n * y + (X.sub b).n = x >>> (256 - (k + 1))) ∧
    (L.addOk L = true → ¬ y ≤ X.n → X.n < y ∧ (Q.add Q).n * y + X.n = x >>> (256 - (k + 1))) := by
  have hs := shr_bit x k hk
  have hb := bit_le x k
  have hle : x >>> (256 - (k + 1)) ≤ x := Nat.shiftRight_le _ _
  have hQ2 : (Q.n + Q.n) * y ≤ x := by
    rw [Nat.add_mul]; omega
  have hQ : Q.n + Q.n ≤ x := Nat.le_trans (Nat.le_mul_of_pos_right _ (by omega)) hQ2
  have eQ : (Q.add Q).n = Q.n + Q.n := by rw [Wd.add_n]; exact Nat.mod_eq_of_lt (by omega)
  have eQi : (Q.add Q).inc.n = Q.n + Q.n + 1 := by rw [Wd.inc_n (by rw [eQ]; omega), eQ]
  have hLL : (L.add L).n = (L.n + L.n) % B256 := Wd.add_n L L
  have e1 : (Q.n + Q.n) * y = 2 * (Q.n * y) := by rw [← Nat.two_mul, Nat.mul_assoc]
  generalize bitN x k = bt at *
  generalize x >>> (256 - (k + 1)) = s at *
  refine ⟨fun hc b hby => ?_, fun h1 h2 => ?_⟩
  · rw [eQi, Wd.sub_n, hby, hX, hLL, Nat.add_mul (Q.n + Q.n) 1 y, Nat.one_mul, e1]
    unfold Wd.addOk at hc
    simp only [decide_eq_false_iff_not] at hc
    rw [hX, hLL] at hc
    have hb0 : (B256 : Nat) = 2 * 57896044618658097711785492504343953926634992332820282019728792003956564819968 := by unfold B256; omega
    generalize B256 = B at *
    by_cases hsm : L.n + L.n < B
    · rw [Nat.mod_eq_of_lt hsm] at hc ⊢
      have hc2 : y ≤ L.n + L.n + bt := by omega
      have e2 : L.n + L.n + bt + B - y = (L.n + L.n + bt - y) + B := by omega
      rw [e2, Nat.add_mod_right, Nat.mod_eq_of_lt (by omega)]
      omega
    · have e3 : (L.n + L.n) % B = L.n + L.n - B := by
        rw [Nat.mod_eq_sub_mod (by omega), Nat.mod_eq_of_lt (by have := L.lt; omega)]
      rw [e3]
      have e2 : L.n + L.n - B + bt + B - y = L.n + L.n + bt - y := by omega
      rw [e2, Nat.mod_eq_of_lt (by omega)]
      omega
  · unfold Wd.addOk at h1
    have hsm : L.n + L.n < B256 := by simpa using h1
    rw [hX, hLL, Nat.mod_eq_of_lt hsm] at h2 ⊢
    rw [eQ, e1]
    omega

set_option maxRecDepth 100000 in
set_option maxHeartbeats 6400000 in
theorem rdiv_some (a b : Wd) (hb : b.n ≠ 0) (w : World) :
    Calls Try.prog 76 #[.agg (wv a.n), .agg (wv b.n)] w fun e w' => e = .returned (.tuple #[.agg (wv (a.div b).n), .agg (wv (a.rem b).n), .bool true]) ∧ Grew w w' := by
  have h0 : weq b.n 0 = false := Wd.ne_zero hb
  have Hb := Lib.hid hb
  have hup0 := Lib.hid (Wd.up_0 a)
  clear hb
  go_enter Try.func76, Try.ntmps76
  go_wp2
  go_loopw [9] (fun v wr => ∃ (k : Nat) (Q L : Wd) (δ : Junk), k ≤ 256 ∧ v = .int .i64 k ∧ L.n < b.n ∧ a.n >>> (256 - k) = Q.n * b.n + L.n ∧
      wr = ((((((w.alloc (.cells (wv (a.up k).n) 26)).alloc (.cells (wv b.n) 26)).alloc (.cells #[.int .u64 0, .int .u64 0, .int .u64 0, .int .u64 0] 26)).alloc (.cells #[.int .u64 0, .int .u64 0, .int .u64 0, .int .u64 0] 26)).alloc (.cells (wv Q.n) 26)).alloc (.cells (wv L.n) 26)).grow δ) (fun v _ => 256 - (intOf v).toNat)
  case atStart =>
    have h1 : a.n >>> (256 - 0) = 0 := down_big _ _ a.lt (by omega)
    exact ⟨0, Wd.zero, Wd.zero, ⟨#[], w.drawn⟩, by omega, rfl, by have := Hb.out; show 0 < b.n; omega, by rw [h1]; show 0 = 0 * b.n + 0; omega, by rw [show (((0 : Nat) : Int)) = 0 from rfl, hup0.out]; exact (grow_self _).symm⟩
  case round =>
    obtain ⟨k, Q, L, δ, hk, rfl, hL, hq, rfl⟩ := hrel
    by_cases hn : k < 256
    · have hs := Wd.up_succ a k
      have hbit : decide ((9223372036854775808 : Int) ≤ (lb (a.up k).n 3 : Int)) = decide (bitN a.n k = 1) := by rw [Wd.up_n]; exact bit_test a.n k
      have ev := twice_even L
      have hi1 := inc_wrap ev
      have hi2 := inc_cells ev
      have evQ := twice_even Q
      have hj1 := inc_wrap evQ
      have hj2 := inc_cells evQ
      have hin := Wd.inc_n ev
      have HR := Lib.hid (fun X hX => div_round (X := X) a.lt b.lt hL hq hn hX)
      have Hin := Lib.hid hin
      have hcase : bitN a.n k = 1 ∨ bitN a.n k = 0 := (bit_le a.n k).symm
      have HL := Lib.hid hL
      have HQ := Lib.hid hq
      clear ev evQ hin hL hq
      rcases hcase with hbt | hbt
      · have hb1 : decide (bitN a.n k = 1) = true := decide_eq_true hbt
        have HR' := Lib.hid (HR.out (L.add L).inc (by rw [hbt]; exact Hin.out))
        have hcg : decide (0 ≤ (L.add L).inc.cmp b) = (L.add L).inc.subOk b := Wd.cmp_ge _ _
        have hc : L.addOk L = false ∨ (L.addOk L = true ∧ decide (0 ≤ (L.add L).inc.cmp b) = true ∧ b.n ≤ (L.add L).inc.n) ∨ (L.addOk L = true ∧ decide (0 ≤ (L.add L).inc.cmp b) = false ∧ ¬ b.n ≤ (L.add L).inc.n) := by
          rw [hcg]
          unfold Wd.subOk
          by_cases hx : b.n ≤ (L.add L).inc.n <;> cases L.addOk L <;> simp [hx]
        rw [hb1] at hbit
        clear HR hbt hb1 hcg
        rcases hc with c1 | ⟨c1, c2, c3⟩ | ⟨c1, c2, c3⟩
        · have HO := Lib.hid (HR'.out.1 (.inl c1) b rfl)
          clear HR'
          go_wp2_with (first
            | (go_at_call 75; refine (radd_w _ _ _).mono ?_; rintro e w' ⟨rfl, δ, rfl⟩)
            | (go_at_call 73; refine (rcmp_w _ _ _).mono ?_; rintro e w' ⟨rfl, δ, rfl⟩)
            | (go_at_call 86; refine (rsub_w _ _ _).mono ?_; rintro e w' ⟨rfl, δ, rfl⟩))
          exact ⟨⟨k + 1, (Q.add Q).inc, ((L.add L).inc.sub b), _, by omega, by go_num, HO.out.1, HO.out.2.symm, by rw [show ((k + 1 : Nat) : Int) = (k : Int) + 1 by omega]; exact grow_alloc_grow _ _ _ _⟩, by simp only [intOf]; omega⟩
        · have HO := Lib.hid (HR'.out.1 (.inr c3) b rfl)
          clear HR' c3
          go_wp2_with (first
            | (go_at_call 75; refine (radd_w _ _ _).mono ?_; rintro e w' ⟨rfl, δ, rfl⟩)
            | (go_at_call 73; refine (rcmp_w _ _ _).mono ?_; rintro e w' ⟨rfl, δ, rfl⟩)
            | (go_at_call 86; refine (rsub_w _ _ _).mono ?_; rintro e w' ⟨rfl, δ, rfl⟩))
          exact ⟨⟨k + 1, (Q.add Q).inc, ((L.add L).inc.sub b), _, by omega, by go_num, HO.out.1, HO.out.2.symm, by rw [show ((k + 1 : Nat) : Int) = (k : Int) + 1 by omega]; exact grow_alloc_grow _ _ _ _⟩, by simp only [intOf]; omega⟩
        · have HO := Lib.hid (HR'.out.2 c1 c3)
          clear HR' c3
          go_wp2_with (first
            | (go_at_call 75; refine (radd_w _ _ _).mono ?_; rintro e w' ⟨rfl, δ, rfl⟩)
            | (go_at_call 73; refine (rcmp_w _ _ _).mono ?_; rintro e w' ⟨rfl, δ, rfl⟩)
            | (go_at_call 86; refine (rsub_w _ _ _).mono ?_; rintro e w' ⟨rfl, δ, rfl⟩))
          exact ⟨⟨k + 1, (Q.add Q), (L.add L).inc, _, by omega, by go_num, HO.out.1, HO.out.2.symm, by rw [show ((k + 1 : Nat) : Int) = (k : Int) + 1 by omega]; exact grow_alloc_grow _ _ _ _⟩, by simp only [intOf]; omega⟩
      · have hb1 : decide (bitN a.n k = 1) = false := decide_eq_false (by omega)
        have HR' := Lib.hid (HR.out (L.add L) (by rw [hbt]; exact rfl))
        have hcg : decide (0 ≤ (L.add L).cmp b) = (L.add L).subOk b := Wd.cmp_ge _ _
        have hc : L.addOk L = false ∨ (L.addOk L = true ∧ decide (0 ≤ (L.add L).cmp b) = true ∧ b.n ≤ (L.add L).n) ∨ (L.addOk L = true ∧ decide (0 ≤ (L.add L).cmp b) = false ∧ ¬ b.n ≤ (L.add L).n) := by
          rw [hcg]
          unfold Wd.subOk
          by_cases hx : b.n ≤ (L.add L).n <;> cases L.addOk L <;> simp [hx]
        rw [hb1] at hbit
        clear HR hbt hb1 hcg
        rcases hc with c1 | ⟨c1, c2, c3⟩ | ⟨c1, c2, c3⟩
        · have HO := Lib.hid (HR'.out.1 (.inl c1) b rfl)
          clear HR'
          go_wp2_with (first
            | (go_at_call 75; refine (radd_w _ _ _).mono ?_; rintro e w' ⟨rfl, δ, rfl⟩)
            | (go_at_call 73; refine (rcmp_w _ _ _).mono ?_; rintro e w' ⟨rfl, δ, rfl⟩)
            | (go_at_call 86; refine (rsub_w _ _ _).mono ?_; rintro e w' ⟨rfl, δ, rfl⟩))
          exact ⟨⟨k + 1, (Q.add Q).inc, ((L.add L).sub b), _, by omega, by go_num, HO.out.1, HO.out.2.symm, by rw [show ((k + 1 : Nat) : Int) = (k : Int) + 1 by omega]; exact grow_alloc_grow _ _ _ _⟩, by simp only [intOf]; omega⟩
        · have HO := Lib.hid (HR'.out.1 (.inr c3) b rfl)
          clear HR' c3
          go_wp2_with (first
            | (go_at_call 75; refine (radd_w _ _ _).mono ?_; rintro e w' ⟨rfl, δ, rfl⟩)
            | (go_at_call 73; refine (rcmp_w _ _ _).mono ?_; rintro e w' ⟨rfl, δ, rfl⟩)
            | (go_at_call 86; refine (rsub_w _ _ _).mono ?_; rintro e w' ⟨rfl, δ, rfl⟩))
          exact ⟨⟨k + 1, (Q.add Q).inc, ((L.add L).sub b), _, by omega, by go_num, HO.out.1, HO.out.2.symm, by rw [show ((k + 1 : Nat) : Int) = (k : Int) + 1 by omega]; exact grow_alloc_grow _ _ _ _⟩, by simp only [intOf]; omega⟩
        · have HO := Lib.hid (HR'.out.2 c1 c3)
          clear HR' c3
          go_wp2_with (first
            | (go_at_call 75; refine (radd_w _ _ _).mono ?_; rintro e w' ⟨rfl, δ, rfl⟩)
            | (go_at_call 73; refine (rcmp_w _ _ _).mono ?_; rintro e w' ⟨rfl, δ, rfl⟩)
            | (go_at_call 86; refine (rsub_w _ _ _).mono ?_; rintro e w' ⟨rfl, δ, rfl⟩))
          exact ⟨⟨k + 1, (Q.add Q), (L.add L), _, by omega, by go_num, HO.out.1, HO.out.2.symm, by rw [show ((k + 1 : Nat) : Int) = (k : Int) + 1 by omega]; exact grow_alloc_grow _ _ _ _⟩, by simp only [intOf]; omega⟩
    · obtain rfl : k = 256 := by omega
      have HF : Hid (Q.n = (a.div b).n ∧ L.n = (a.rem b).n) := by
        refine (?_ : _ ∧ _)
        rw [Nat.sub_self, Nat.shiftRight_zero] at hq
        rw [Wd.div_n, Wd.rem_n _ _ Hb.out]
        exact div_end a.n b.n Q.n L.n hq hL
      clear hq hL
      go_wp2
      go_region
      all_goals
        go_wp2
        refine bodyPost_ret (v := .tuple #[.agg (wv (a.div b).n), .agg (wv (a.rem b).n), .bool true]) ?_ rfl ⟨rfl, (by repeat (first | with_reducible exact Grew.refl _ | with_reducible apply Grew.alloc | with_reducible apply Grew.grow | with_reducible apply Grew.drew | with_reducible apply Grew.drewN))⟩
        simp [results, Try.results76, go_sem]
        exact ⟨by rw [HF.out.1], by rw [HF.out.2]⟩
set_option maxRecDepth 100000 in
set_option maxHeartbeats 1600000 in
theorem rdiv_nil (a : Wd) (w : World) :
    Calls Try.prog 76 #[.agg (wv a.n), .agg (wv 0)] w fun e w' => e = .returned (.tuple #[.agg (wv 0), .agg (wv 0), .bool false]) ∧ Grew w w' := by
  have h0 : weq 0 0 = true := rfl
  go_enter Try.func76, Try.ntmps76
  go_wp2
  refine bodyPost_ret (v := .tuple #[.agg (wv 0), .agg (wv 0), .bool false]) ?_ rfl ⟨rfl, (by repeat (first | with_reducible exact Grew.refl _ | with_reducible apply Grew.alloc | with_reducible apply Grew.grow | with_reducible apply Grew.drew | with_reducible apply Grew.drewN))⟩
  simp [results, Try.results76, go_sem]
  rfl
theorem rdiv_w (a b : Wd) (w : World) :
    Calls Try.prog 76 #[.agg (wv a.n), .agg (wv b.n)] w fun e w' => e = .returned (.tuple #[.agg (wv (a.div b).n), .agg (wv (a.rem b).n), .bool (a.divOk b)]) ∧ Grew w w' := by
  by_cases h : b.n = 0
  · unfold Wd.div Wd.rem Wd.divOk
    rw [if_pos h, wv_of', h, Nat.div_zero]; exact rdiv_nil _ w
  · have : a.divOk b = true := by unfold Wd.divOk; simpa using h
    rw [this]; exact rdiv_some a b h w
end Go.Proofs.Ytommbfgagalckaa
/- wide's Of32. -/
namespace Go.Proofs.Ytommbfgagalckaa
set_option linter.unusedVariables false
set_option linter.unusedSimpArgs false
open Go.RowKit

def stepN (u c : Nat) : Nat := 256 * u + c
theorem or_byte (u c : Nat) (hu : u < 72057594037927936) (hc : c < 256) : bits .or .u64 (IntKind.u64.wrap ((u : Int) * 256)) (c : Int) = ((stepN u c : Nat) : Int) := by
  unfold stepN
  have e1 : IntKind.u64.wrap ((u : Int) * 256) = ((u * 256 : Nat) : Int) := by
    rw [IntKind.wrap_u64]; omega
  rw [e1, bits_or_u64 _ _ (by omega) (by omega)]
  congr 1
  rw [show u * 256 = u <<< 8 by rw [Nat.shiftLeft_eq], ← Nat.shiftLeft_add_eq_or_of_lt (show c < 2 ^ 8 from hc), Nat.shiftLeft_eq]
  omega

set_option maxRecDepth 100000 in
set_option maxHeartbeats 1600000 in
theorem of32_any (l : List Nat) (hl : l.length = 32) (hc : ∀ c ∈ l, c < 256) (w : World) :
    Calls Try.prog 34 #[.agg (iv l)] w fun e w' => e = .returned (.agg (wv (numB l))) ∧ Grew w w' := by
  have Hl := Lib.hid hl
  have Hc := Lib.hid hc
  clear hc
  go_enter Try.func34, Try.ntmps34
  go_wp2
  go_loopw [8] (fun n wr => ∃ (k : Nat), k ≤ 32 ∧ n = .int .i64 k ∧
      wr = (((w.alloc (.cells (iv l) 23)).alloc (.cells #[.int .u64 0, .int .u64 0, .int .u64 0, .int .u64 0] 26)).alloc (.cells (limbs l k) 26))) (fun n _ => 32 - (intOf n).toNat)
  case atStart => exact ⟨0, by omega, rfl, by rw [limbs_start]⟩
  case round =>
    obtain ⟨k, hk, rfl, rfl⟩ := hrel
    by_cases hn : k < 32
    · have hb := byteAt_lt l Hc.out k
      have h1 := limbs_get l k hn
      have h2 := or_byte (limb l (8 * (k / 8)) k) (byteAt l k) (limb_small l _ k (by omega) (by omega) Hc.out (by omega)) hb
      have h3 : (limbs l k).setIfInBounds (3 - k / 8) (.int .u64 ((stepN (limb l (8 * (k / 8)) k) (byteAt l k) : Nat) : Int)) = limbs l (k + 1) := limbs_set l k hn hl _ (by unfold stepN; rw [byteAt_eq l k (by omega)])
      go_wp2
      exact ⟨⟨k + 1, by omega, by go_num, rfl⟩, by simp only [intOf]; omega⟩
    · obtain rfl : k = 32 := by omega
      rw [limbs_end l Hl.out Hc.out]
      go_wp2
      refine bodyPost_ret (v := .agg (wv (numB l))) ?_ rfl ⟨rfl, (by repeat (first | with_reducible exact Grew.refl _ | with_reducible apply Grew.alloc | with_reducible apply Grew.grow | with_reducible apply Grew.drew | with_reducible apply Grew.drewN))⟩
      simp [results, Try.results34, go_sem]
/-- The number of an id. -/
noncomputable def Idb.w (a : Idb) : Wd := .of (numB a.l)
theorem Idb.w_n (a : Idb) : a.w.n = numB a.l := by
  unfold Idb.w; rw [Wd.of_n]; exact Nat.mod_eq_of_lt (numB_lt256 a.l a.len a.lt)
theorem of32_i (a : Idb) (w : World) :
    Calls Try.prog 34 #[.agg (iv a.l)] w fun e w' => e = .returned (.agg (wv a.w.n)) ∧ Grew w w' := by
  rw [Idb.w_n]; exact of32_any a.l a.len a.lt w
end Go.Proofs.Ytommbfgagalckaa
