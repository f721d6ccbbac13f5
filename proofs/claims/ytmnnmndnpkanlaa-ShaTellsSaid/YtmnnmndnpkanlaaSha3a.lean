/- For sha's add: what its loops compute. -/
import Derived.Test.YtmnnmndnpkanlaaRows
import Derived.Test.YtmnnmndnpkanlaaSha2
import Derived.Test.YtmnnmndnpkanlaaEnv
import Derived.Test.YtmnnmndnpkanlaaPlaces
namespace Go
set_option linter.unusedVariables false
set_option linter.unusedSimpArgs false
section
variable (w : World) (g : Nat) (cs : Array Value)
theorem heap_setRow_free (h : w.rowFree g = true) : ∃ t, (w.setRow g cs).heap[g]? = some (.cells cs t (0, 0)) := by
  obtain ⟨t, ht⟩ := row_of_free w h
  exact ⟨t, setRow_heap w g _ cs t _ ht⟩
@[go_sem] theorem cell_setRow_free (h : w.rowFree g = true) (i : Nat) : (w.setRow g cs).cell? ⟨g, i, none⟩ = cs[i]? := by
  obtain ⟨t, ht⟩ := heap_setRow_free w g cs h
  simp [World.cell?, ht]
@[go_sem] theorem frozen_setRow_free (h : w.rowFree g = true) (i : Nat) : (w.setRow g cs).frozen? ⟨g, i, none⟩ = false := by
  obtain ⟨t, ht⟩ := heap_setRow_free w g cs h
  simp [World.frozen?, ht]
@[go_sem] theorem setCell_setRow_free (h : w.rowFree g = true) (i : Nat) (v : Value) : (w.setRow g cs).setCell ⟨g, i, none⟩ v = w.setRow g (cs.setIfInBounds i v) := by
  obtain ⟨t, ht⟩ := heap_setRow_free w g cs h
  rw [setCell_eq_setRow _ g i cs t _ v ht, setRow_setRow]
@[go_sem] theorem rowAt_setRow_free (h : w.rowFree g = true) : (w.setRow g cs).rowAt g = cs := by
  obtain ⟨t, ht⟩ := heap_setRow_free w g cs h
  simp [World.rowAt, ht]
@[go_sem] theorem rowFree_setRow_free (h : w.rowFree g = true) : (w.setRow g cs).rowFree g = true := by
  obtain ⟨t, ht⟩ := heap_setRow_free w g cs h
  simp [World.rowFree, ht]
theorem setRow_same' (h : w.rowFree g = true) : w.setRow g (w.rowAt g) = w := by
  obtain ⟨t, ht⟩ := row_of_free w h
  have hlt : g < w.heap.size := (Array.getElem?_eq_some_iff.1 ht).1
  have hv : w.heap[g] = .cells (w.rowAt g) t (0, 0) := (Array.getElem?_eq_some_iff.1 ht).2
  unfold World.setRow
  cases w with
  | mk heap tape drawn os output =>
    congr 1
    apply Array.ext
    · simp
    · intro k h1 h2
      simp only [Array.getElem_modify]
      split
      · rename_i hk; subst hk; simp only at hv; rw [hv]
      · rfl
end
end Go
namespace Go.Proofs.Ytmnnmndnpkanlaa
open Go.RowKit

@[go_sem] theorem u_div8 (x : BitVec 32) : u x / (8 : Int) = u (x >>> 3) := u_div x 3
@[go_sem] theorem u_div1024 (x : BitVec 32) : u x / (1024 : Int) = u (x >>> 10) := u_div x 10
def rotI (n : Int) : Bool := decide (n = 2 ∨ n = 6 ∨ n = 7 ∨ n = 11 ∨ n = 13 ∨ n = 17 ∨ n = 18 ∨ n = 19 ∨ n = 22 ∨ n = 25)
theorem right_i (x : BitVec 32) (n : Int) (hn : rotI n = true) (w : World) :
    Calls Try.prog 26 #[.int .u32 (u x), .int .i64 n] w fun e w' => e = .returned (.int .u32 (u (rr n.toNat x))) ∧ Grew w w' := by
  unfold rotI at hn
  have hn := of_decide_eq_true hn
  obtain ⟨m, rfl⟩ := Int.eq_ofNat_of_zero_le (show 0 ≤ n by omega)
  exact right_w x m (by unfold rotOk; omega) w

/-- Words, filled up with zeros to 64. -/
def pad64 (l : List (BitVec 32)) : List (BitVec 32) := l ++ List.replicate (64 - l.length) 0
theorem pad64_len (l : List (BitVec 32)) (h : l.length ≤ 64) : (pad64 l).length = 64 := by simp [pad64]; omega
theorem pad64_nil : pad64 [] = w0 := rfl
theorem pad64_set (l : List (BitVec 32)) (x : BitVec 32) (h : l.length < 64) : (pad64 l).set l.length x = pad64 (l ++ [x]) := by
  unfold pad64
  rw [List.set_append_right _ _ (Nat.le_refl _), Nat.sub_self]
  obtain ⟨m, hm⟩ : ∃ m, 64 - l.length = m + 1 := ⟨63 - l.length, by omega⟩
  rw [hm, List.replicate_succ, List.set_cons_zero, List.length_append, List.length_singleton, show 64 - (l.length + 1) = m by omega, List.append_assoc]
  rfl
theorem pad64_at (l : List (BitVec 32)) (i : Nat) (h : i < l.length) : wordAt (pad64 l) i = wordAt l i := by
  unfold wordAt pad64
  simp [List.getD, List.getElem?_append, h]
theorem pad64_full (l : List (BitVec 32)) (h : l.length = 64) : pad64 l = l := by unfold pad64; rw [h]; simp
theorem sched_low (b : List Nat) (k : Nat) (h : k < 16) : (pad64 (sched b k)).set k (be32 (byteAt b (4 * k)) (byteAt b (4 * k + 1)) (byteAt b (4 * k + 2)) (byteAt b (4 * k + 3))) = pad64 (sched b (k + 1)) := by
  have := pad64_set (sched b k) (be32 (byteAt b (4 * k)) (byteAt b (4 * k + 1)) (byteAt b (4 * k + 2)) (byteAt b (4 * k + 3))) (by rw [sched_len]; omega)
  rw [sched_len] at this
  rw [this]
  conv => rhs; unfold sched
  rw [if_pos h]
theorem sched_high (b : List Nat) (k : Nat) (h : ¬ k < 16) (h2 : k < 64) : (pad64 (sched b k)).set k (wordAt (pad64 (sched b k)) (k - 16) + wordAt (pad64 (sched b k)) (k - 7) + (rr 7 (wordAt (pad64 (sched b k)) (k - 15)) ^^^ rr 18 (wordAt (pad64 (sched b k)) (k - 15)) ^^^ wordAt (pad64 (sched b k)) (k - 15) >>> 3) + (rr 17 (wordAt (pad64 (sched b k)) (k - 2)) ^^^ rr 19 (wordAt (pad64 (sched b k)) (k - 2)) ^^^ wordAt (pad64 (sched b k)) (k - 2) >>> 10)) = pad64 (sched b (k + 1)) := by
  have hl := sched_len b k
  rw [pad64_at _ (k - 16) (by omega), pad64_at _ (k - 7) (by omega), pad64_at _ (k - 15) (by omega), pad64_at _ (k - 2) (by omega)]
  have := pad64_set (sched b k) (schedN (sched b k) k) (by rw [sched_len]; omega)
  rw [sched_len] at this
  conv => rhs; unfold sched
  rw [if_neg h]
  exact this
/-- The eight words, of which 'k' have been added up. -/
def mixk (s v : List (BitVec 32)) (k : Nat) : List (BitVec 32) := (List.range 8).map fun i => if i < k then wordAt s i + wordAt v i else wordAt s i
theorem mixk_len (s v : List (BitVec 32)) (k : Nat) : (mixk s v k).length = 8 := by simp [mixk]
theorem mixk_0 (s v : List (BitVec 32)) (h : s.length = 8) : mixk s v 0 = s := by
  apply List.ext_getElem
  · simp [mixk, h]
  · intro i h1 h2
    simp [mixk, wordAt_eq s i h2]
theorem mixk_at (s v : List (BitVec 32)) (k : Nat) (h : k < 8) : wordAt (mixk s v k) k = wordAt s k := by
  rw [wordAt_eq _ k (by rw [mixk_len]; exact h)]
  simp [mixk]
theorem mixk_set (s v : List (BitVec 32)) (k : Nat) (h : k < 8) : (mixk s v k).set k (wordAt (mixk s v k) k + wordAt v k) = mixk s v (k + 1) := by
  rw [mixk_at s v k h]
  apply List.ext_getElem
  · simp [mixk]
  · intro i h1 h2
    simp only [List.getElem_set, mixk, List.getElem_map, List.getElem_range]
    by_cases hi : k = i
    · subst hi; rw [if_pos rfl, if_pos (by omega)]
    · rw [if_neg hi]
      by_cases h3 : i < k
      · rw [if_pos h3, if_pos (by omega)]
      · rw [if_neg h3, if_neg (by omega)]
theorem mixk_8 (s : List (BitVec 32)) (l : List Nat) : mixk s (rnds s (sched l 64) 64) 8 = compress s l := by
  unfold mixk compress
  apply List.map_congr_left
  intro i hi
  rw [if_pos (by simpa using hi)]
def or2 (a b : Nat) : Nat := a * 16777216 + b * 65536
def or3 (a b c : Nat) : Nat := a * 16777216 + b * 65536 + c * 256
theorem or_u32_nat (a b : Nat) (ha : a < 4294967296) (hb : b < 4294967296) : bits .or .u32 (a : Int) (b : Int) = ((a ||| b : Nat) : Int) := by
  have h1 : (BitVec.ofInt 32 (a : Int)).toNat = a := by rw [BitVec.ofInt_natCast, BitVec.toNat_ofNat]; exact Nat.mod_eq_of_lt (by omega)
  have h2 : (BitVec.ofInt 32 (b : Int)).toNat = b := by rw [BitVec.ofInt_natCast, BitVec.toNat_ofNat]; exact Nat.mod_eq_of_lt (by omega)
  show IntKind.u32.wrap ((BitVec.ofInt 32 (a : Int) ||| BitVec.ofInt 32 (b : Int)).toNat : Int) = _
  rw [BitVec.toNat_or, h1, h2]
  have : a ||| b < 2 ^ 32 := Nat.or_lt_two_pow (by omega) (by omega)
  show ((a ||| b : Nat) : Int) % 4294967296 = _
  omega
theorem or_add (a b k : Nat) (hb : b < 2 ^ k) : a * 2 ^ k ||| b = a * 2 ^ k + b := by
  rw [← Nat.shiftLeft_eq, Nat.shiftLeft_add_eq_or_of_lt hb]
theorem be_or2 (a b : Nat) (ha : a < 256) (hb : b < 256) : bits .or .u32 ((a : Int) * 16777216) ((b : Int) * 65536) = ((or2 a b : Nat) : Int) := by
  have := or_u32_nat (a * 16777216) (b * 65536) (by omega) (by omega)
  rw [Int.natCast_mul, Int.natCast_mul] at this
  refine this.trans (congrArg _ ?_)
  exact or_add a (b * 65536) 24 (by omega)
theorem be_or3 (a b c : Nat) (ha : a < 256) (hb : b < 256) (hc : c < 256) : bits .or .u32 ((or2 a b : Nat) : Int) ((c : Int) * 256) = ((or3 a b c : Nat) : Int) := by
  have := or_u32_nat (or2 a b) (c * 256) (by unfold or2; omega) (by omega)
  rw [Int.natCast_mul] at this
  refine this.trans (congrArg _ ?_)
  have e : or2 a b = (a * 256 + b) * 2 ^ 16 := by unfold or2; omega
  rw [e, or_add _ _ 16 (by omega)]
  unfold or3; omega
theorem be_or4 (a b c d : Nat) (ha : a < 256) (hb : b < 256) (hc : c < 256) (hd : d < 256) : bits .or .u32 ((or3 a b c : Nat) : Int) (d : Int) = u (be32 a b c d) := by
  rw [or_u32_nat (or3 a b c) d (by unfold or3; omega) (by omega)]
  have e : or3 a b c = (a * 65536 + b * 256 + c) * 2 ^ 8 := by unfold or3; omega
  rw [e, or_add _ _ 8 (by omega)]
  unfold u be32
  rw [BitVec.toNat_ofNat]
  omega

end Go.Proofs.Ytmnnmndnpkanlaa
