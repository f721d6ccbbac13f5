/- Bytes as cells, ids as 32 bytes, and the bytes of a number below 2^256. No program in sight. -/
import Derived.Test.YtmnnmndnpkanlaaWideMath
namespace Go.Proofs.Ytmnnmndnpkanlaa
set_option linter.unusedVariables false
set_option linter.unusedSimpArgs false

/-- The cells of bytes. -/
def iv (l : List Nat) : Array Value := (l.map fun (c : Nat) => Value.int .u8 (c : Int)).toArray
theorem iv_size (l : List Nat) : (iv l).size = l.length := by simp [iv]
theorem iv_get (l : List Nat) (i : Nat) (h : i < l.length) : (iv l)[i]? = some (.int .u8 (l[i] : Nat)) := by simp [iv, h]
theorem iv_set (l : List Nat) (i : Nat) (c : Nat) : (iv l).setIfInBounds i (.int .u8 (c : Int)) = iv (l.set i c) := by
  unfold iv
  rw [List.setIfInBounds_toArray, List.map_set]
theorem iv_toList (l : List Nat) : (iv l).toList = l.map fun (c : Nat) => Value.int .u8 (c : Int) := rfl
theorem iv_inj {l k : List Nat} (h : iv l = iv k) : l = k := by
  unfold iv at h
  have h1 := Array.mk.inj h
  refine (List.map_inj_right ?_).1 h1
  intro x y e
  simp only [Value.int.injEq] at e
  omega
attribute [go_sem] iv_size

/-- 'n' bytes, of which the first 'k' are given by 'f' and the others are 0. -/
def filled (f : Nat → Nat) (n k : Nat) : List Nat := (List.range n).map fun i => if i < k then f i else 0
theorem filled_length (f : Nat → Nat) (n k : Nat) : (filled f n k).length = n := by simp [filled]
theorem filled_get (f : Nat → Nat) (n k i : Nat) (h : i < n) : (filled f n k)[i]'(by rw [filled_length]; exact h) = if i < k then f i else 0 := by simp [filled]
theorem filled_zero (f : Nat → Nat) (n : Nat) : filled f n 0 = List.replicate n 0 := by
  apply List.ext_getElem
  · simp [filled]
  · intro i h1 h2; simp [filled]
theorem filled_step (f : Nat → Nat) (n k : Nat) : (filled f n k).set k (f k) = filled f n (k + 1) := by
  apply List.ext_getElem
  · simp [filled]
  · intro i h1 h2
    simp only [List.getElem_set, filled, List.getElem_map, List.getElem_range]
    by_cases h : k = i
    · subst h; simp
    · rw [if_neg h]
      by_cases h3 : i < k
      · rw [if_pos h3, if_pos (by omega)]
      · rw [if_neg h3, if_neg (by omega)]
theorem filled_all (f : Nat → Nat) (n : Nat) : filled f n n = (List.range n).map f := by
  unfold filled
  apply List.map_congr_left
  intro i hi
  rw [if_pos (by simpa using hi)]

/-- Byte 'i' of a number below 2^256, the highest one first. -/
def byteN (x i : Nat) : Nat := x >>> (8 * (31 - i)) % 256
theorem byteN_lt (x i : Nat) : byteN x i < 256 := Nat.mod_lt _ (by decide)
def bytesN (x : Nat) : List Nat := (List.range 32).map (byteN x)
theorem bytesN_length (x : Nat) : (bytesN x).length = 32 := by simp [bytesN]
theorem byteN_lb (x i : Nat) (h : i < 32) : byteN x i = lb x (3 - i / 8) >>> (56 - 8 * (i % 8)) % 256 := by
  apply Nat.eq_of_testBit_eq
  intro k
  unfold byteN
  rw [show (256 : Nat) = 2 ^ 8 from rfl, Nat.testBit_mod_two_pow, Nat.testBit_mod_two_pow, Nat.testBit_shiftRight, Nat.testBit_shiftRight, lb_bit]
  by_cases hk : k < 8
  · have h1 : 56 - 8 * (i % 8) + k < 64 := by omega
    rw [show 64 * (3 - i / 8) + (56 - 8 * (i % 8) + k) = 8 * (31 - i) + k by omega]
    simp [hk, h1]
  · simp [hk]

theorem snoc_ind {α : Type} {P : List α → Prop} (h0 : P []) (h1 : ∀ l a, P l → P (l ++ [a])) (l : List α) : P l := by
  have h : ∀ l : List α, P l.reverse := by
    intro l
    induction l with
    | nil => exact h0
    | cons a l ih => rw [List.reverse_cons]; exact h1 _ _ ih
  have := h l.reverse
  rwa [List.reverse_reverse] at this
/-- The number of bytes, the highest one first. -/
def numB : List Nat → Nat := List.foldl (fun n c => 256 * n + c) 0
theorem numB_snoc (l : List Nat) (c : Nat) : numB (l ++ [c]) = 256 * numB l + c := by simp [numB]
theorem foldl_num (l : List Nat) : ∀ a : Nat, l.foldl (fun n c => 256 * n + c) a = a * 256 ^ l.length + numB l := by
  unfold numB
  induction l with
  | nil => simp
  | cons c l ih =>
    intro a
    simp only [List.foldl_cons, List.length_cons]
    rw [ih, ih (256 * 0 + c)]
    rw [Nat.mul_zero, Nat.zero_add, Nat.add_mul, Nat.pow_succ, Nat.add_assoc]
    congr 1
    rw [Nat.mul_comm 256 a, Nat.mul_assoc, Nat.mul_comm 256]
theorem numB_append (l k : List Nat) : numB (l ++ k) = numB l * 256 ^ k.length + numB k := by
  show (l ++ k).foldl _ 0 = _
  rw [List.foldl_append, foldl_num]; rfl
theorem numB_lt (l : List Nat) (h : ∀ c ∈ l, c < 256) : numB l < 256 ^ l.length := by
  induction l using snoc_ind with
  | h0 => simp [numB]
  | h1 l c ih =>
    rw [numB_snoc, List.length_append, List.length_singleton, Nat.pow_succ]
    have h1 := ih fun c hc => h c (by simp [hc])
    have h2 := h c (by simp)
    omega
/-- One of four parts of 32 bytes: the number of those from 's' on, at most 8, ahead of place 'k'. -/
def limb (l : List Nat) (s k : Nat) : Nat := numB ((l.drop s).take (min 8 (k - s)))
theorem limb_lt (l : List Nat) (s k : Nat) (h : ∀ c ∈ l, c < 256) : limb l s k < 18446744073709551616 := by
  have h1 := numB_lt ((l.drop s).take (min 8 (k - s))) fun c hc => h c (List.mem_of_mem_drop (List.mem_of_mem_take hc))
  have h2 : ((l.drop s).take (min 8 (k - s))).length ≤ 8 := by rw [List.length_take]; omega
  have h3 : 256 ^ ((l.drop s).take (min 8 (k - s))).length ≤ 256 ^ 8 := Nat.pow_le_pow_right (by decide) h2
  have h4 : (256 : Nat) ^ 8 = 18446744073709551616 := by decide
  unfold limb
  omega
theorem limb_zero (l : List Nat) (s : Nat) : limb l s 0 = 0 := by simp [limb, numB]
theorem limb_step (l : List Nat) (s k : Nat) (h1 : s ≤ k) (h2 : k < s + 8) (h : k < l.length) : limb l s (k + 1) = 256 * limb l s k + l[k] := by
  unfold limb
  rw [show min 8 (k + 1 - s) = (k - s) + 1 by omega, show min 8 (k - s) = k - s by omega]
  rw [List.take_succ_eq_append_getElem (by rw [List.length_drop]; omega), numB_snoc]
  congr 1
  rw [List.getElem_drop]
  congr 1
  omega
theorem limb_other (l : List Nat) (s k : Nat) (h : k < s ∨ s + 8 ≤ k) : limb l s (k + 1) = limb l s k := by
  unfold limb
  congr 2
  omega
theorem limb_small (l : List Nat) (s k : Nat) (h1 : s ≤ k) (h2 : k < s + 8) (h : ∀ c ∈ l, c < 256) (hk : k < l.length) : limb l s k < 72057594037927936 := by
  have e := limb_step l s k h1 h2 hk
  have h3 := limb_lt l s (k + 1) h
  omega
/-- The four parts of 32 bytes, as far as place 'k'. -/
def limbs (l : List Nat) (k : Nat) : Array Value := #[.int .u64 (limb l 24 k), .int .u64 (limb l 16 k), .int .u64 (limb l 8 k), .int .u64 (limb l 0 k)]
theorem limbs_start (l : List Nat) : limbs l 0 = #[.int .u64 0, .int .u64 0, .int .u64 0, .int .u64 0] := by
  simp [limbs, limb_zero]
theorem limbs_get (l : List Nat) (k : Nat) (h : k < 32) : (limbs l k)[3 - k / 8]? = some (.int .u64 (limb l (8 * (k / 8)) k)) := by
  have : k / 8 = 0 ∨ k / 8 = 1 ∨ k / 8 = 2 ∨ k / 8 = 3 := by omega
  rcases this with e | e | e | e <;> rw [e] <;> rfl
theorem limbs_set (l : List Nat) (k : Nat) (h : k < 32) (hl : l.length = 32) (v : Int) (hv : v = ((256 * limb l (8 * (k / 8)) k + l[k] : Nat) : Int)) : (limbs l k).setIfInBounds (3 - k / 8) (.int .u64 v) = limbs l (k + 1) := by
  subst hv
  have : k / 8 = 0 ∨ k / 8 = 1 ∨ k / 8 = 2 ∨ k / 8 = 3 := by omega
  unfold limbs
  rcases this with e | e | e | e <;> rw [e]
  · rw [limb_other l 24 k (by omega), limb_other l 16 k (by omega), limb_other l 8 k (by omega), limb_step l 0 k (by omega) (by omega) (by omega)]; rfl
  · rw [limb_other l 24 k (by omega), limb_other l 16 k (by omega), limb_other l 0 k (by omega), limb_step l 8 k (by omega) (by omega) (by omega)]; rfl
  · rw [limb_other l 24 k (by omega), limb_other l 8 k (by omega), limb_other l 0 k (by omega), limb_step l 16 k (by omega) (by omega) (by omega)]; rfl
  · rw [limb_other l 16 k (by omega), limb_other l 8 k (by omega), limb_other l 0 k (by omega), limb_step l 24 k (by omega) (by omega) (by omega)]; rfl
theorem limbs_end (l : List Nat) (hl : l.length = 32) (hc : ∀ c ∈ l, c < 256) : limbs l 32 = wv (numB l) := by
  have e : ∀ s, s + 8 ≤ 32 → limb l s 32 = numB ((l.drop s).take 8) := fun s hs => by unfold limb; congr 2; omega
  unfold limbs
  rw [wv_w4 (limb_lt _ _ _ hc) (limb_lt _ _ _ hc) (limb_lt _ _ _ hc) (limb_lt _ _ _ hc)]
  congr 1
  have h0 : l = (l.drop 0).take 8 ++ ((l.drop 8).take 8 ++ ((l.drop 16).take 8 ++ (l.drop 24).take 8)) := by
    have e24 : (l.drop 24).take 8 = l.drop 24 := List.take_of_length_le (by rw [List.length_drop]; omega)
    have c16 : (l.drop 16).take 8 ++ l.drop 24 = l.drop 16 := by
      rw [show l.drop 24 = (l.drop 16).drop 8 by rw [List.drop_drop]]; exact List.take_append_drop 8 _
    have c8 : (l.drop 8).take 8 ++ l.drop 16 = l.drop 8 := by
      rw [show l.drop 16 = (l.drop 8).drop 8 by rw [List.drop_drop]]; exact List.take_append_drop 8 _
    rw [e24, c16, c8, List.drop_zero]
    exact (List.take_append_drop 8 _).symm
  rw [e 24 (by omega), e 16 (by omega), e 8 (by omega), e 0 (by omega)]
  have hlen : ∀ s, s + 8 ≤ 32 → ((l.drop s).take 8).length = 8 := fun s hs => by rw [List.length_take, List.length_drop]; omega
  have h1 := congrArg numB h0
  rw [numB_append, numB_append, numB_append, List.length_append, List.length_append, hlen 8 (by omega), hlen 16 (by omega), hlen 24 (by omega)] at h1
  rw [h1]
  unfold w4
  have p1 : (256 : Nat) ^ (8 + (8 + 8)) = 6277101735386680763835789423207666416102355444464034512896 := by decide +kernel
  have p2 : (256 : Nat) ^ (8 + 8) = 340282366920938463463374607431768211456 := by decide +kernel
  have p3 : (256 : Nat) ^ 8 = 18446744073709551616 := by decide +kernel
  rw [p1, p2, p3]
  omega
theorem pow256_32 : (256 : Nat) ^ 32 = B256 := by decide +kernel
theorem numB_lt256 (l : List Nat) (hl : l.length = 32) (hc : ∀ c ∈ l, c < 256) : numB l < B256 := by
  have := numB_lt l hc
  rwa [hl, pow256_32] at this
theorem numB_bytes_aux (x : Nat) : ∀ k, k ≤ 32 → numB ((List.range k).map (byteN x)) = x >>> (8 * (32 - k)) % 256 ^ k
  | 0, _ => by simp [numB, Nat.mod_one]
  | k + 1, h => by
    rw [List.range_succ, List.map_append, List.map_singleton, numB_snoc, numB_bytes_aux x k (by omega)]
    unfold byteN
    rw [show 31 - k = 32 - (k + 1) by omega, Nat.shiftRight_eq_div_pow, Nat.shiftRight_eq_div_pow]
    rw [show 8 * (32 - k) = 8 * (32 - (k + 1)) + 8 by omega, Nat.pow_add, ← Nat.div_div_eq_div_mul]
    generalize x / 2 ^ (8 * (32 - (k + 1))) = y
    rw [show (2 : Nat) ^ 8 = 256 from rfl, Nat.pow_succ, Nat.mul_comm (256 ^ k) 256, Nat.mod_mul]
    omega
theorem numB_bytesN (x : Nat) (h : x < B256) : numB (bytesN x) = x := by
  unfold bytesN
  rw [numB_bytes_aux x 32 (by omega), pow256_32]
  simpa using Nat.mod_eq_of_lt h
theorem numB_inj : ∀ {l k : List Nat}, l.length = k.length → (∀ c ∈ l, c < 256) → (∀ c ∈ k, c < 256) → numB l = numB k → l = k := by
  intro l
  induction l using snoc_ind with
  | h0 => intro k h _ _ _; exact (List.length_eq_zero_iff.1 h.symm).symm
  | h1 l c ih =>
    intro k h h1 h2 h3
    rcases List.eq_nil_or_concat k with rfl | ⟨k', d, rfl⟩
    · simp at h
    · rw [List.concat_eq_append] at *
      rw [numB_snoc, numB_snoc] at h3
      have c1 := h1 c (by simp)
      have c2 := h2 d (by simp)
      have e := ih (k := k') (by simpa using h) (fun c hc => h1 c (by simp [hc])) (fun c hc => h2 c (by simp [hc])) (by omega)
      subst e
      have : c = d := by omega
      subst this; rfl
end Go.Proofs.Ytmnnmndnpkanlaa
