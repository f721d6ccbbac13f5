/- The sum of bytes, as numbers. -/
import Derived.Test.YtmnnmndnpkanlaaSha3
import Derived.Test.YtmnnmndnpkanlaaPad
namespace Go.Proofs.Ytmnnmndnpkanlaa
set_option linter.unusedVariables false
set_option linter.unusedSimpArgs false
/-- The first words. -/
def words0 : List (BitVec 32) := [0x6a09e667, 0xbb67ae85, 0x3c6ef372, 0xa54ff53a, 0x510e527f, 0x9b05688c, 0x1f83d9ab, 0x5be0cd19]
/-- The words behind 'k' parts. -/
def sumk (p : List Nat) : Nat → List (BitVec 32)
  | 0 => words0
  | k + 1 => compress (sumk p k) (p.drop (64 * k))
def wordByte (s : List (BitVec 32)) (i : Nat) : Nat := (wordAt s (i / 4)).toNat / 2 ^ (24 - 8 * (i % 4)) % 256
def outk (s : List (BitVec 32)) (k : Nat) : List Nat := (List.range 32).map fun i => if i < k then wordByte s i else 0
def sum (l : List Nat) : List Nat := outk (sumk (pad l) ((pad l).length / 64)) 32
theorem outk_len (s : List (BitVec 32)) (k : Nat) : (outk s k).length = 32 := by simp [outk]
theorem outk_0 (s : List (BitVec 32)) : outk s 0 = id0 := by
  unfold outk id0
  apply List.ext_getElem
  · simp
  · intro i h1 h2
    simp only [List.getElem_map, List.getElem_replicate, List.getElem_range]
    rw [if_neg (by omega)]
theorem outk_set (s : List (BitVec 32)) (k : Nat) : (outk s k).set k (wordByte s k) = outk s (k + 1) := by
  apply List.ext_getElem
  · simp [outk]
  · intro i h1 h2
    simp only [outk, List.getElem_set, List.getElem_map, List.getElem_range]
    split
    · subst_vars; simp
    · split
      · rw [if_pos (by omega)]
      · rw [if_neg (by omega)]
theorem wordByte_lt (s : List (BitVec 32)) (i : Nat) : wordByte s i < 256 := Nat.mod_lt _ (by omega)
theorem outk_lt (s : List (BitVec 32)) (k : Nat) : ∀ c ∈ outk s k, c < 256 := by
  intro c hc
  obtain ⟨i, _, rfl⟩ := List.mem_map.1 hc
  split
  · exact wordByte_lt s i
  · omega
theorem sum_len (l : List Nat) : (sum l).length = 32 := outk_len _ _
theorem sum_lt (l : List Nat) : ∀ c ∈ sum l, c < 256 := outk_lt _ _
theorem pad_mod (l : List Nat) : (pad l).length % 64 = 0 := by rw [pad_len]; omega
/-- The words behind some parts, in that order. -/
def sumOf (p : List Nat) (ks : List Nat) : List (BitVec 32) := ks.foldl (fun s k => compress s (p.drop (64 * k))) words0
theorem sumOf_snoc (p : List Nat) (ks : List Nat) (k : Nat) : sumOf p (ks ++ [k]) = compress (sumOf p ks) (p.drop (64 * k)) := by simp [sumOf]
theorem sumOf_range (p : List Nat) : ∀ k, sumOf p (List.range k) = sumk p k
  | 0 => rfl
  | k + 1 => by rw [List.range_succ, sumOf_snoc, sumOf_range p k]; rfl
theorem sumOf_len (p : List Nat) (ks : List Nat) : (sumOf p ks).length = 8 := by
  rcases List.eq_nil_or_concat ks with rfl | ⟨ini, x, rfl⟩
  · rfl
  · rw [List.concat_eq_append, sumOf_snoc]; exact compress_len _ _
theorem byteAt_drop (l : List Nat) (k j : Nat) : byteAt (l.drop k) j = byteAt l (k + j) := by simp [byteAt, List.getD]
end Go.Proofs.Ytmnnmndnpkanlaa
