/- What the statements of this chapter rest on, part 2. Conditions: none. -/
import Derived.Laws.Rows
import Derived.Deep.MidRow
import Derived.Test.YtinkdkcmmjfhoaaRows
import Derived.Laws.BytesString
import Derived.Laws.Strings
import Derived.DeepKeys
import Derived.Laws.MakeOwn
import Derived.Test.YtinkdkcmmjfhoaaM1
/- Numbers below 2^256 as four parts of 64 bits. No program in sight. -/
namespace Go.Proofs.Ytinkdkcmmjfhoaa
set_option linter.unusedVariables false
set_option linter.unusedSimpArgs false

/-- Part 'i' of a number. -/
def lb (x i : Nat) : Nat := (x >>> (64 * i)) % 2 ^ 64
theorem lb_lt (x i : Nat) : lb x i < 18446744073709551616 := Nat.mod_lt _ (by decide)
theorem lb_bit (x i k : Nat) : (lb x i).testBit k = (decide (k < 64) && x.testBit (64 * i + k)) := by
  unfold lb; rw [Nat.testBit_mod_two_pow, Nat.testBit_shiftRight]
/-- The cells of a number. -/
def wv (x : Nat) : Array Value := #[.int .u64 (lb x 0), .int .u64 (lb x 1), .int .u64 (lb x 2), .int .u64 (lb x 3)]
theorem wv_size (x : Nat) : (wv x).size = 4 := rfl
theorem wv_get0 (x : Nat) : (wv x)[0]? = some (.int .u64 (lb x 0)) := rfl
theorem wv_get1 (x : Nat) : (wv x)[1]? = some (.int .u64 (lb x 1)) := rfl
theorem wv_get2 (x : Nat) : (wv x)[2]? = some (.int .u64 (lb x 2)) := rfl
theorem wv_get3 (x : Nat) : (wv x)[3]? = some (.int .u64 (lb x 3)) := rfl
theorem wv_toList (x : Nat) : (wv x).toList = [.int .u64 (lb x 0), .int .u64 (lb x 1), .int .u64 (lb x 2), .int .u64 (lb x 3)] := rfl
theorem wv_fold (x : Nat) : #[Value.int .u64 (lb x 0), Value.int .u64 (lb x 1), Value.int .u64 (lb x 2), Value.int .u64 (lb x 3)] = wv x := rfl
theorem wv_zero : #[Value.int .u64 0, Value.int .u64 0, Value.int .u64 0, Value.int .u64 0] = wv 0 := rfl
theorem wv_set0 (x : Nat) (v : Value) : (wv x).setIfInBounds 0 v = #[v, .int .u64 (lb x 1), .int .u64 (lb x 2), .int .u64 (lb x 3)] := rfl
theorem wv_set1 (x : Nat) (v : Value) : (wv x).setIfInBounds 1 v = #[.int .u64 (lb x 0), v, .int .u64 (lb x 2), .int .u64 (lb x 3)] := rfl
theorem wv_set2 (x : Nat) (v : Value) : (wv x).setIfInBounds 2 v = #[.int .u64 (lb x 0), .int .u64 (lb x 1), v, .int .u64 (lb x 3)] := rfl
theorem wv_set3 (x : Nat) (v : Value) : (wv x).setIfInBounds 3 v = #[.int .u64 (lb x 0), .int .u64 (lb x 1), .int .u64 (lb x 2), v] := rfl
attribute [go_sem] wv_set0 wv_set1 wv_set2 wv_set3 wv_size wv_get0 wv_get1 wv_get2 wv_get3 wv_toList wv_fold
/-- The number of four parts. -/
def w4 (a b c d : Nat) : Nat := a + 18446744073709551616 * b + 340282366920938463463374607431768211456 * c + 6277101735386680763835789423207666416102355444464034512896 * d
theorem lb0 (x : Nat) : lb x 0 = x % 18446744073709551616 := rfl
theorem lb1 (x : Nat) : lb x 1 = x / 18446744073709551616 % 18446744073709551616 := by simp [lb, Nat.shiftRight_eq_div_pow]
theorem lb2 (x : Nat) : lb x 2 = x / 340282366920938463463374607431768211456 % 18446744073709551616 := by simp [lb, Nat.shiftRight_eq_div_pow]
theorem lb3 (x : Nat) : lb x 3 = x / 6277101735386680763835789423207666416102355444464034512896 % 18446744073709551616 := by simp [lb, Nat.shiftRight_eq_div_pow]
/-- 2^256. -/
def B256 : Nat := 115792089237316195423570985008687907853269984665640564039457584007913129639936
theorem w4_lb (x : Nat) : w4 (lb x 0) (lb x 1) (lb x 2) (lb x 3) = x % B256 := by
  unfold w4 B256; rw [lb0, lb1, lb2, lb3]; omega
theorem lb_w4 {a b c d : Nat} (ha : a < 18446744073709551616) (hb : b < 18446744073709551616) (hc : c < 18446744073709551616) (hd : d < 18446744073709551616) :
    lb (w4 a b c d) 0 = a ∧ lb (w4 a b c d) 1 = b ∧ lb (w4 a b c d) 2 = c ∧ lb (w4 a b c d) 3 = d := by
  rw [lb0, lb1, lb2, lb3]; unfold w4; omega
theorem w4_lt {a b c d : Nat} (ha : a < 18446744073709551616) (hb : b < 18446744073709551616) (hc : c < 18446744073709551616) (hd : d < 18446744073709551616) :
    w4 a b c d < B256 := by unfold w4 B256; omega
theorem wv_w4 {a b c d : Nat} (ha : a < 18446744073709551616) (hb : b < 18446744073709551616) (hc : c < 18446744073709551616) (hd : d < 18446744073709551616) :
    #[Value.int .u64 a, Value.int .u64 b, Value.int .u64 c, Value.int .u64 d] = wv (w4 a b c d) := by
  obtain ⟨h0, h1, h2, h3⟩ := lb_w4 ha hb hc hd
  unfold wv; rw [h0, h1, h2, h3]
theorem wv_mod (x : Nat) : wv (x % B256) = wv x := by
  have h0 : lb (x % B256) 0 = lb x 0 := by rw [lb0, lb0]; unfold B256; omega
  have h1 : lb (x % B256) 1 = lb x 1 := by rw [lb1, lb1]; unfold B256; omega
  have h2 : lb (x % B256) 2 = lb x 2 := by rw [lb2, lb2]; unfold B256; omega
  have h3 : lb (x % B256) 3 = lb x 3 := by rw [lb3, lb3]; unfold B256; omega
  unfold wv; rw [h0, h1, h2, h3]
theorem lb_inj {x y : Nat} (h0 : lb x 0 = lb y 0) (h1 : lb x 1 = lb y 1) (h2 : lb x 2 = lb y 2) (h3 : lb x 3 = lb y 3) : x % B256 = y % B256 := by
  rw [← w4_lb, ← w4_lb, h0, h1, h2, h3]
theorem lb_congr {x y : Nat} (h : x % B256 = y % B256) : lb x 0 = lb y 0 ∧ lb x 1 = lb y 1 ∧ lb x 2 = lb y 2 ∧ lb x 3 = lb y 3 := by
  unfold B256 at h; rw [lb0, lb1, lb2, lb3, lb0, lb1, lb2, lb3]; omega
theorem wv_inj {x y : Nat} : wv x = wv y ↔ x % B256 = y % B256 := by
  constructor
  · intro h
    unfold wv at h
    simp only [Array.mk.injEq, List.cons.injEq, Value.int.injEq, true_and, and_true] at h
    exact lb_inj (by omega) (by omega) (by omega) (by omega)
  · intro h; rw [← wv_mod, h, wv_mod]

/-- Part 'i', or 0 beside all. -/
def atL (x : Nat) (i : Int) : Nat := if i < 0 ∨ 4 ≤ i then 0 else lb x i.toNat
theorem atL_lt (x : Nat) (i : Int) : atL x i < 18446744073709551616 := by unfold atL; split; decide; exact lb_lt _ _
theorem atL_bit (x : Nat) (h : x < B256) (i : Int) (k : Nat) : (atL x i).testBit k = (decide (k < 64) && decide (0 ≤ i) && x.testBit (64 * i.toNat + k)) := by
  unfold atL
  split
  · rename_i hi
    rcases hi with hi | hi
    · have : ¬ 0 ≤ i := by omega
      simp [this]
    · have : x.testBit (64 * i.toNat + k) = false := Nat.testBit_lt_two_pow (Nat.lt_of_lt_of_le (show x < 2 ^ 256 from h) (Nat.pow_le_pow_right (by decide) (by omega)))
      simp [this]
  · rename_i hi
    have : 0 ≤ i := by omega
    rw [lb_bit]; simp [this]

/-- What two parts make of a part that moves up by less than 64 bits. -/
def upl (x y s : Nat) : Nat := (x <<< s) % 2 ^ 64 ||| y >>> (64 - s)
theorem up_part' (x q s i : Nat) (hs : s < 64) (hx : x < B256) (hi : i < 4) : lb (x <<< (64 * q + s)) i = upl (atL x ((i : Int) - q)) (atL x ((i : Int) - q - 1)) s := by
  apply Nat.eq_of_testBit_eq
  intro k
  rw [lb_bit, upl, Nat.testBit_or, Nat.testBit_mod_two_pow, Nat.testBit_shiftLeft, Nat.testBit_shiftLeft, Nat.testBit_shiftRight, atL_bit x hx, atL_bit x hx]
  by_cases hk : k < 64
  · by_cases h1 : 64 * q + s ≤ 64 * i + k
    · by_cases h2 : s ≤ k
      · have e1 : 64 * ((i : Int) - q).toNat + (k - s) = 64 * i + k - (64 * q + s) := by omega
        have h3 : (0 : Int) ≤ (i : Int) - q := by omega
        have h4 : k - s < 64 := by omega
        have h5 : ¬ (64 - s + k < 64) := by omega
        rw [e1]
        simp only [hk, h1, h2, h3, h4, h5, decide_true, decide_false, Bool.true_and, Bool.false_and, Bool.or_false, ge_iff_le]
      · have e1 : 64 * ((i : Int) - q - 1).toNat + (64 - s + k) = 64 * i + k - (64 * q + s) := by omega
        have h3 : (0 : Int) ≤ (i : Int) - q - 1 := by omega
        have h5 : (64 - s + k < 64) := by omega
        rw [e1]
        simp only [hk, h1, h2, h3, h5, decide_true, decide_false, Bool.true_and, Bool.false_and, Bool.false_or, ge_iff_le]
    · have h3 : ¬ (0 : Int) ≤ (i : Int) - q - 1 := by omega
      by_cases h6 : s ≤ k
      · have h7 : ¬ (0 : Int) ≤ (i : Int) - q := by omega
        simp only [hk, h1, h3, h7, decide_true, decide_false, Bool.true_and, Bool.false_and, Bool.and_false, Bool.false_or, ge_iff_le]
      · simp only [hk, h1, h3, h6, decide_true, decide_false, Bool.true_and, Bool.false_and, Bool.and_false, Bool.false_or, ge_iff_le]
  · have h5 : ¬ (64 - s + k < 64) := by omega
    simp only [hk, h5, decide_false, Bool.false_and, Bool.false_or]
theorem up_part (x n i : Nat) (hx : x < B256) (hi : i < 4) : lb (x <<< n) i = upl (atL x ((i : Int) - (n / 64 : Nat))) (atL x ((i : Int) - (n / 64 : Nat) - 1)) (n % 64) := by
  have := up_part' x (n / 64) (n % 64) i (by omega) hx hi
  rwa [show 64 * (n / 64) + n % 64 = n by omega] at this

/-- What two parts make of a part that moves down by less than 64 bits. -/
def dnl (x y s : Nat) : Nat := x >>> s ||| (y <<< (64 - s)) % 2 ^ 64
theorem down_part' (x q s i : Nat) (hs : s < 64) (hx : x < B256) (hi : i < 4) : lb (x >>> (64 * q + s)) i = dnl (atL x ((i : Int) + q)) (atL x ((i : Int) + q + 1)) s := by
  apply Nat.eq_of_testBit_eq
  intro k
  rw [lb_bit, dnl, Nat.testBit_or, Nat.testBit_mod_two_pow, Nat.testBit_shiftLeft, Nat.testBit_shiftRight, Nat.testBit_shiftRight, atL_bit x hx, atL_bit x hx]
  have p1 : (0 : Int) ≤ (i : Int) + q := by omega
  have p2 : (0 : Int) ≤ (i : Int) + q + 1 := by omega
  by_cases hk : k < 64
  · by_cases h2 : s + k < 64
    · have e1 : 64 * ((i : Int) + q).toNat + (s + k) = 64 * q + s + (64 * i + k) := by omega
      have h3 : ¬ (64 - s ≤ k) := by omega
      rw [e1]
      simp only [hk, h2, p1, p2, h3, decide_true, decide_false, Bool.true_and, Bool.false_and, Bool.or_false, Bool.and_false, ge_iff_le]
    · have e1 : 64 * ((i : Int) + q + 1).toNat + (k - (64 - s)) = 64 * q + s + (64 * i + k) := by omega
      have h3 : (64 - s ≤ k) := by omega
      have h4 : k - (64 - s) < 64 := by omega
      rw [e1]
      simp only [hk, h2, p1, p2, h3, h4, decide_true, decide_false, Bool.true_and, Bool.false_and, Bool.false_or, ge_iff_le]
  · have h5 : ¬ (s + k < 64) := by omega
    simp only [hk, h5, decide_false, Bool.false_and, Bool.false_or]
theorem down_part (x n i : Nat) (hx : x < B256) (hi : i < 4) : lb (x >>> n) i = dnl (atL x ((i : Int) + (n / 64 : Nat))) (atL x ((i : Int) + (n / 64 : Nat) + 1)) (n % 64) := by
  have := down_part' x (n / 64) (n % 64) i (by omega) hx hi
  rwa [show 64 * (n / 64) + n % 64 = n by omega] at this
end Go.Proofs.Ytinkdkcmmjfhoaa
/- Bytes as cells, ids as 32 bytes, and the bytes of a number below 2^256. No program in sight. -/
namespace Go.Proofs.Ytinkdkcmmjfhoaa
set_option linter.unusedVariables false
set_option linter.unusedSimpArgs false

/-- The cells of bytes. -/
def iv (l : List Nat) : Array Value := (l.map fun (c : Nat) => Value.int .u8 (c : Int)).toArray
theorem iv_size (l : List Nat) : (iv l).size = l.length := by simp [iv]
theorem iv_get (l : List Nat) (i : Nat) (h : i < l.length) : (iv l)[i]? = some (.int .u8 (l[i] : Nat)) := by simp [iv, h]
theorem iv_set (l : List Nat) (i : Nat) (c : Nat) : (iv l).setIfInBounds i (.int .u8 (c : Int)) = iv (l.set i c) := by
  unfold iv
  rw [List.setIfInBounds_toArray, List.map_set]
theorem iv_toList (l : List Nat) : (iv l).toList = l.map fun (c : Nat) => Value.int .u8 (c : Int) := rfl
theorem iv_inj {l k : List Nat} (h : iv l = iv k) : l = k := by
  unfold iv at h
  have h1 := Array.mk.inj h
  refine (List.map_inj_right ?_).1 h1
  intro x y e
  simp only [Value.int.injEq] at e
  omega
attribute [go_sem] iv_size

/-- 'n' bytes, of which the first 'k' are given by 'f' and the others are 0. -/
def filled (f : Nat → Nat) (n k : Nat) : List Nat := (List.range n).map fun i => if i < k then f i else 0
theorem filled_length (f : Nat → Nat) (n k : Nat) : (filled f n k).length = n := by simp [filled]
theorem filled_get (f : Nat → Nat) (n k i : Nat) (h : i < n) : (filled f n k)[i]'(by rw [filled_length]; exact h) = if i < k then f i else 0 := by simp [filled]
theorem filled_zero (f : Nat → Nat) (n : Nat) : filled f n 0 = List.replicate n 0 := by
  apply List.ext_getElem
  · simp [filled]
  · intro i h1 h2; simp [filled]
theorem filled_step (f : Nat → Nat) (n k : Nat) : (filled f n k).set k (f k) = filled f n (k + 1) := by
  apply List.ext_getElem
  · simp [filled]
  · intro i h1 h2
    simp only [List.getElem_set, filled, List.getElem_map, List.getElem_range]
    by_cases h : k = i
    · subst h; simp
    · rw [if_neg h]
      by_cases h3 : i < k
      · rw [if_pos h3, if_pos (by omega)]
      · rw [if_neg h3, if_neg (by omega)]
theorem filled_all (f : Nat → Nat) (n : Nat) : filled f n n = (List.range n).map f := by
  unfold filled
  apply List.map_congr_left
  intro i hi
  rw [if_pos (by simpa using hi)]

/-- Byte 'i' of a number below 2^256, the highest one first. -/
def byteN (x i : Nat) : Nat := x >>> (8 * (31 - i)) % 256
theorem byteN_lt (x i : Nat) : byteN x i < 256 := Nat.mod_lt _ (by decide)
def bytesN (x : Nat) : List Nat := (List.range 32).map (byteN x)
theorem bytesN_length (x : Nat) : (bytesN x).length = 32 := by simp [bytesN]
theorem byteN_lb (x i : Nat) (h : i < 32) : byteN x i = lb x (3 - i / 8) >>> (56 - 8 * (i % 8)) % 256 := by
  apply Nat.eq_of_testBit_eq
  intro k
  unfold byteN
  rw [show (256 : Nat) = 2 ^ 8 from rfl, Nat.testBit_mod_two_pow, Nat.testBit_mod_two_pow, Nat.testBit_shiftRight, Nat.testBit_shiftRight, lb_bit]
  by_cases hk : k < 8
  · have h1 : 56 - 8 * (i % 8) + k < 64 := by omega
    rw [show 64 * (3 - i / 8) + (56 - 8 * (i % 8) + k) = 8 * (31 - i) + k by omega]
    simp [hk, h1]
  · simp [hk]

theorem snoc_ind {α : Type} {P : List α → Prop} (h0 : P []) (h1 : ∀ l a, P l → P (l ++ [a])) (l : List α) : P l := by
  have h : ∀ l : List α, P l.reverse := by
    intro l
    induction l with
    | nil => exact h0
    | cons a l ih => rw [List.reverse_cons]; exact h1 _ _ ih
  have := h l.reverse
  rwa [List.reverse_reverse] at this
/-- The number of bytes, the highest one first. -/
def numB : List Nat → Nat := List.foldl (fun n c => 256 * n + c) 0
theorem numB_snoc (l : List Nat) (c : Nat) : numB (l ++ [c]) = 256 * numB l + c := by simp [numB]
theorem foldl_num (l : List Nat) : ∀ a : Nat, l.foldl (fun n c => 256 * n + c) a = a * 256 ^ l.length + numB l := by
  unfold numB
  induction l with
  | nil => simp
  | cons c l ih =>
    intro a
    simp only [List.foldl_cons, List.length_cons]
    rw [ih, ih (256 * 0 + c)]
    rw [Nat.mul_zero, Nat.zero_add, Nat.add_mul, Nat.pow_succ, Nat.add_assoc]
    congr 1
    rw [Nat.mul_comm 256 a, Nat.mul_assoc, Nat.mul_comm 256]
theorem numB_append (l k : List Nat) : numB (l ++ k) = numB l * 256 ^ k.length + numB k := by
  show (l ++ k).foldl _ 0 = _
  rw [List.foldl_append, foldl_num]; rfl
theorem numB_lt (l : List Nat) (h : ∀ c ∈ l, c < 256) : numB l < 256 ^ l.length := by
  induction l using snoc_ind with
  | h0 => simp [numB]
  | h1 l c ih =>
    rw [numB_snoc, List.length_append, List.length_singleton, Nat.pow_succ]
    have h1 := ih fun c hc => h c (by simp [hc])
    have h2 := h c (by simp)
    omega
/-- One of four parts of 32 bytes: the number of those from 's' on, at most 8, ahead of place 'k'. -/
def limb (l : List Nat) (s k : Nat) : Nat := numB ((l.drop s).take (min 8 (k - s)))
theorem limb_lt (l : List Nat) (s k : Nat) (h : ∀ c ∈ l, c < 256) : limb l s k < 18446744073709551616 := by
  have h1 := numB_lt ((l.drop s).take (min 8 (k - s))) fun c hc => h c (List.mem_of_mem_drop (List.mem_of_mem_take hc))
  have h2 : ((l.drop s).take (min 8 (k - s))).length ≤ 8 := by rw [List.length_take]; omega
  have h3 : 256 ^ ((l.drop s).take (min 8 (k - s))).length ≤ 256 ^ 8 := Nat.pow_le_pow_right (by decide) h2
  have h4 : (256 : Nat) ^ 8 = 18446744073709551616 := by decide
  unfold limb
  omega
theorem limb_zero (l : List Nat) (s : Nat) : limb l s 0 = 0 := by simp [limb, numB]
theorem limb_step (l : List Nat) (s k : Nat) (h1 : s ≤ k) (h2 : k < s + 8) (h : k < l.length) : limb l s (k + 1) = 256 * limb l s k + l[k] := by
  unfold limb
  rw [show min 8 (k + 1 - s) = (k - s) + 1 by omega, show min 8 (k - s) = k - s by omega]
  rw [List.take_succ_eq_append_getElem (by rw [List.length_drop]; omega), numB_snoc]
  congr 1
  rw [List.getElem_drop]
  congr 1
  omega
theorem limb_other (l : List Nat) (s k : Nat) (h : k < s ∨ s + 8 ≤ k) : limb l s (k + 1) = limb l s k := by
  unfold limb
  congr 2
  omega
theorem limb_small (l : List Nat) (s k : Nat) (h1 : s ≤ k) (h2 : k < s + 8) (h : ∀ c ∈ l, c < 256) (hk : k < l.length) : limb l s k < 72057594037927936 := by
  have e := limb_step l s k h1 h2 hk
  have h3 := limb_lt l s (k + 1) h
  omega
/-- The four parts of 32 bytes, as far as place 'k'. -/
def limbs (l : List Nat) (k : Nat) : Array Value := #[.int .u64 (limb l 24 k), .int .u64 (limb l 16 k), .int .u64 (limb l 8 k), .int .u64 (limb l 0 k)]
theorem limbs_start (l : List Nat) : limbs l 0 = #[.int .u64 0, .int .u64 0, .int .u64 0, .int .u64 0] := by
  simp [limbs, limb_zero]
theorem limbs_get (l : List Nat) (k : Nat) (h : k < 32) : (limbs l k)[3 - k / 8]? = some (.int .u64 (limb l (8 * (k / 8)) k)) := by
  have : k / 8 = 0 ∨ k / 8 = 1 ∨ k / 8 = 2 ∨ k / 8 = 3 := by omega
  rcases this with e | e | e | e <;> rw [e] <;> rfl
theorem limbs_set (l : List Nat) (k : Nat) (h : k < 32) (hl : l.length = 32) (v : Int) (hv : v = ((256 * limb l (8 * (k / 8)) k + l[k] : Nat) : Int)) : (limbs l k).setIfInBounds (3 - k / 8) (.int .u64 v) = limbs l (k + 1) := by
  subst hv
  have : k / 8 = 0 ∨ k / 8 = 1 ∨ k / 8 = 2 ∨ k / 8 = 3 := by omega
  unfold limbs
  rcases this with e | e | e | e <;> rw [e]
  · rw [limb_other l 24 k (by omega), limb_other l 16 k (by omega), limb_other l 8 k (by omega), limb_step l 0 k (by omega) (by omega) (by omega)]; rfl
  · rw [limb_other l 24 k (by omega), limb_other l 16 k (by omega), limb_other l 0 k (by omega), limb_step l 8 k (by omega) (by omega) (by omega)]; rfl
  · rw [limb_other l 24 k (by omega), limb_other l 8 k (by omega), limb_other l 0 k (by omega), limb_step l 16 k (by omega) (by omega) (by omega)]; rfl
  · rw [limb_other l 16 k (by omega), limb_other l 8 k (by omega), limb_other l 0 k (by omega), limb_step l 24 k (by omega) (by omega) (by omega)]; rfl
theorem limbs_end (l : List Nat) (hl : l.length = 32) (hc : ∀ c ∈ l, c < 256) : limbs l 32 = wv (numB l) := by
  have e : ∀ s, s + 8 ≤ 32 → limb l s 32 = numB ((l.drop s).take 8) := fun s hs => by unfold limb; congr 2; omega
  unfold limbs
  rw [wv_w4 (limb_lt _ _ _ hc) (limb_lt _ _ _ hc) (limb_lt _ _ _ hc) (limb_lt _ _ _ hc)]
  congr 1
  have h0 : l = (l.drop 0).take 8 ++ ((l.drop 8).take 8 ++ ((l.drop 16).take 8 ++ (l.drop 24).take 8)) := by
    have e24 : (l.drop 24).take 8 = l.drop 24 := List.take_of_length_le (by rw [List.length_drop]; omega)
    have c16 : (l.drop 16).take 8 ++ l.drop 24 = l.drop 16 := by
      rw [show l.drop 24 = (l.drop 16).drop 8 by rw [List.drop_drop]]; exact List.take_append_drop 8 _
    have c8 : (l.drop 8).take 8 ++ l.drop 16 = l.drop 8 := by
      rw [show l.drop 16 = (l.drop 8).drop 8 by rw [List.drop_drop]]; exact List.take_append_drop 8 _
    rw [e24, c16, c8, List.drop_zero]
    exact (List.take_append_drop 8 _).symm
  rw [e 24 (by omega), e 16 (by omega), e 8 (by omega), e 0 (by omega)]
  have hlen : ∀ s, s + 8 ≤ 32 → ((l.drop s).take 8).length = 8 := fun s hs => by rw [List.length_take, List.length_drop]; omega
  have h1 := congrArg numB h0
  rw [numB_append, numB_append, numB_append, List.length_append, List.length_append, hlen 8 (by omega), hlen 16 (by omega), hlen 24 (by omega)] at h1
  rw [h1]
  unfold w4
  have p1 : (256 : Nat) ^ (8 + (8 + 8)) = 6277101735386680763835789423207666416102355444464034512896 := by decide +kernel
  have p2 : (256 : Nat) ^ (8 + 8) = 340282366920938463463374607431768211456 := by decide +kernel
  have p3 : (256 : Nat) ^ 8 = 18446744073709551616 := by decide +kernel
  rw [p1, p2, p3]
  omega
theorem pow256_32 : (256 : Nat) ^ 32 = B256 := by decide +kernel
theorem numB_lt256 (l : List Nat) (hl : l.length = 32) (hc : ∀ c ∈ l, c < 256) : numB l < B256 := by
  have := numB_lt l hc
  rwa [hl, pow256_32] at this
theorem numB_bytes_aux (x : Nat) : ∀ k, k ≤ 32 → numB ((List.range k).map (byteN x)) = x >>> (8 * (32 - k)) % 256 ^ k
  | 0, _ => by simp [numB, Nat.mod_one]
  | k + 1, h => by
    rw [List.range_succ, List.map_append, List.map_singleton, numB_snoc, numB_bytes_aux x k (by omega)]
    unfold byteN
    rw [show 31 - k = 32 - (k + 1) by omega, Nat.shiftRight_eq_div_pow, Nat.shiftRight_eq_div_pow]
    rw [show 8 * (32 - k) = 8 * (32 - (k + 1)) + 8 by omega, Nat.pow_add, ← Nat.div_div_eq_div_mul]
    generalize x / 2 ^ (8 * (32 - (k + 1))) = y
    rw [show (2 : Nat) ^ 8 = 256 from rfl, Nat.pow_succ, Nat.mul_comm (256 ^ k) 256, Nat.mod_mul]
    omega
theorem numB_bytesN (x : Nat) (h : x < B256) : numB (bytesN x) = x := by
  unfold bytesN
  rw [numB_bytes_aux x 32 (by omega), pow256_32]
  simpa using Nat.mod_eq_of_lt h
theorem numB_inj : ∀ {l k : List Nat}, l.length = k.length → (∀ c ∈ l, c < 256) → (∀ c ∈ k, c < 256) → numB l = numB k → l = k := by
  intro l
  induction l using snoc_ind with
  | h0 => intro k h _ _ _; exact (List.length_eq_zero_iff.1 h.symm).symm
  | h1 l c ih =>
    intro k h h1 h2 h3
    rcases List.eq_nil_or_concat k with rfl | ⟨k', d, rfl⟩
    · simp at h
    · rw [List.concat_eq_append] at *
      rw [numB_snoc, numB_snoc] at h3
      have c1 := h1 c (by simp)
      have c2 := h2 d (by simp)
      have e := ih (k := k') (by simpa using h) (fun c hc => h1 c (by simp [hc])) (fun c hc => h2 c (by simp [hc])) (by omega)
      subst e
      have : c = d := by omega
      subst this; rfl
end Go.Proofs.Ytinkdkcmmjfhoaa
/- Rowed: whole arrays read out of, and written into, blocks. No program in sight. -/
namespace Go
set_option linter.unusedVariables false
set_option linter.unusedSimpArgs false
open Go.RowKit

/-- What block 'g' holds, where it is one of cells. -/
def World.rowAt (w : World) (g : Nat) : Array Value := match w.heap[g]? with | some (.cells c _ _) => c | _ => #[]
/-- May all of block 'g' be written? -/
def World.rowFree (w : World) (g : Nat) : Bool := match w.heap[g]? with | some (.cells _ _ fr) => fr == (0, 0) | _ => false

section
variable (w : World) (δ : Junk)
theorem rowAt_of_heap {w w' : World} {g : Nat} (h : w'.heap[g]? = w.heap[g]?) : w'.rowAt g = w.rowAt g := by simp [World.rowAt, h]
theorem rowFree_of_heap {w w' : World} {g : Nat} (h : w'.heap[g]? = w.heap[g]?) : w'.rowFree g = w.rowFree g := by simp [World.rowFree, h]
@[go_sem] theorem rowAt_alloc_at (c : Array Value) (t : TypeId) (fr : Nat × Nat) (n : Nat) (hn : n = w.heap.size) : (w.alloc (.cells c t fr)).rowAt n = c := by
  subst hn; unfold World.rowAt; rw [heap_alloc_new]
@[go_sem] theorem rowAt_alloc_past (o : Obj) (n : Nat) (hn : n < w.heap.size) : (w.alloc o).rowAt n = w.rowAt n := rowAt_of_heap (Go.heap_alloc_old w o hn)
@[go_sem] theorem rowFree_alloc_at (c : Array Value) (t : TypeId) (n : Nat) (hn : n = w.heap.size) : (w.alloc (.cells c t)).rowFree n = true := by
  subst hn; unfold World.rowFree; rw [heap_alloc_new]; rfl
@[go_sem] theorem rowFree_alloc_past (o : Obj) (n : Nat) (hn : n < w.heap.size) : (w.alloc o).rowFree n = w.rowFree n := rowFree_of_heap (Go.heap_alloc_old w o hn)
@[go_sem] theorem rowAt_grow_old (n : Nat) (hn : n < w.heap.size) : (w.grow δ).rowAt n = w.rowAt n := rowAt_of_heap (heap_grow_old w δ n hn)
@[go_sem] theorem rowFree_grow_old (n : Nat) (hn : n < w.heap.size) : (w.grow δ).rowFree n = w.rowFree n := rowFree_of_heap (heap_grow_old w δ n hn)
@[go_sem] theorem rowAt_drew (n : Nat) : w.drew.rowAt n = w.rowAt n := rfl
@[go_sem] theorem rowFree_drew (n : Nat) : w.drew.rowFree n = w.rowFree n := rfl
@[go_sem] theorem rowAt_drewN (k n : Nat) : (w.drewN k).rowAt n = w.rowAt n := rfl
@[go_sem] theorem rowFree_drewN (k n : Nat) : (w.drewN k).rowFree n = w.rowFree n := rfl
theorem row_of_size {n g : Nat} (h : (w.rowAt g).size = n + 1) : ∃ t fr, w.heap[g]? = some (.cells (w.rowAt g) t fr) := by
  unfold World.rowAt at *
  split at h
  · rename_i c t fr e; rw [e]; exact ⟨t, fr, rfl⟩
  · simp at h
theorem row_lt {n g : Nat} (h : (w.rowAt g).size = n + 1) : g < w.heap.size := by
  obtain ⟨t, fr, hg⟩ := row_of_size w h
  exact (Array.getElem?_eq_some_iff.1 hg).1
theorem row_of_free {g : Nat} (h : w.rowFree g = true) : ∃ t, w.heap[g]? = some (.cells (w.rowAt g) t (0, 0)) := by
  unfold World.rowFree at h
  unfold World.rowAt
  split at h
  · rename_i c t fr e; rw [e]; exact ⟨t, by simp at h; rw [h]⟩
  · simp at h

theorem cell_rowAt (g i : Nat) : w.cell? ⟨g, i, none⟩ = (w.rowAt g)[i]? := by
  unfold World.cell? World.rowAt
  split <;> simp_all
@[go_sem] theorem setRow_alloc_at (c cs : Array Value) (t : TypeId) (fr : Nat × Nat) (n : Nat) (hn : n = w.heap.size) : (w.alloc (.cells c t fr)).setRow n cs = w.alloc (.cells cs t fr) := by
  subst hn
  unfold World.setRow World.alloc
  congr 1
  apply Array.ext
  · simp
  · intro k h1 h2
    simp only [Array.getElem_modify, Array.getElem_push]
    split
    · subst_vars; simp
    · split <;> simp_all
      omega
@[go_sem] theorem setRow_alloc_past (o : Obj) (cs : Array Value) (n : Nat) (hn : n < w.heap.size) : (w.alloc o).setRow n cs = (w.setRow n cs).alloc o := by
  unfold World.setRow World.alloc
  congr 1
  apply Array.ext
  · simp
  · intro k h1 h2
    simp only [Array.getElem_modify, Array.getElem_push, Array.size_modify]
    split
    · rename_i hk; subst hk; simp [hn]
    · split <;> rfl
@[go_sem] theorem setRow_grow (cs : Array Value) (n : Nat) (hn : n < w.heap.size) : (w.grow δ).setRow n cs = (w.setRow n cs).grow δ := by
  unfold World.setRow World.grow
  congr 1
  apply Array.ext
  · simp
  · intro k h1 h2
    simp only [Array.getElem_modify, Array.getElem_append, Array.size_modify]
    split
    · rename_i hk; subst hk; simp [hn]
    · split <;> rfl
@[go_sem] theorem setRow_drew (cs : Array Value) (n : Nat) : w.drew.setRow n cs = (w.setRow n cs).drew := rfl
@[go_sem] theorem setRow_drewN (k : Nat) (cs : Array Value) (n : Nat) : (w.drewN k).setRow n cs = (w.setRow n cs).drewN k := rfl
attribute [go_sem] setRow_size

/-- Is a type an array or a struct of 'n' cells? -/
def Program.rowType (P : Program) (ty : TypeId) (n : Nat) : Bool :=
  (match P.underlying ty with | some (.struct _) | some (.array _ _) => true | _ => false) && (P.info? ty).map (·.size) == some n
theorem run_load_row {P : Program} {ty : TypeId} {n g : Nat} (ht : P.rowType ty (n + 1) = true) (h : (w.rowAt g).size = n + 1) :
    (Instr.loadAt ty (.pointer (some ⟨g, 0, none⟩))).run P w = .ok (.agg (w.rowAt g)) w := by
  obtain ⟨t, fr, hg⟩ := row_of_size w h
  unfold Program.rowType at ht
  simp only [Bool.and_eq_true, beq_iff_eq] at ht
  cases hu : P.underlying ty with
  | none => simp [hu] at ht
  | some d =>
    have hd : (match d with | .struct _ | .array _ _ => true | _ => false) = true := by
      have := ht.1; rw [hu] at this; cases d <;> simp_all
    simp only [Instr.loadAt, Instr.sureAddr, Sem.run_bind, Sem.run_pure, Result.andThen_ok, run_loadVar_row w g t ty _ fr d hg hu hd (by rw [h]; exact ht.2)]
theorem run_store_row {P : Program} {ty : TypeId} {n g : Nat} {cs : Array Value} (ht : P.rowType ty n = true) (hf : w.rowFree g = true) (h : (w.rowAt g).size = n) (hc : cs.size = n) (h1 : cs.all (·.oneCell') = true) :
    (Instr.storeAt ty (.pointer (some ⟨g, 0, none⟩)) (.agg cs)).run P w = .ok () (w.setRow g cs) := by
  obtain ⟨t, hg⟩ := row_of_free w hf
  unfold Program.rowType at ht
  simp only [Bool.and_eq_true, beq_iff_eq] at ht
  simp only [Instr.storeAt, Instr.sureAddr, Sem.run_bind, Sem.run_pure, Result.andThen_ok, run_storeVar_row w g t ty _ cs hg (by rw [hc]; exact ht.2) (by rw [h, hc]) h1]
/-- The three operations on a variable that is a row, under names that the walk does not open. -/
def rowLoad (ty : TypeId) (v : Value) : Sem Next := do let x ← Instr.loadAt ty v; pure (.value x)
def rowStore (ty : TypeId) (p v : Value) : Sem Next := do Instr.storeAt ty p v; pure .skip
def rowAlloc (ty : TypeId) : Sem Next := do let x ← Instr.alloc ty true (.tuple #[]); pure (.value x)
theorem run_rowLoad {P : Program} {ty : TypeId} {n g : Nat} (ht : P.rowType ty (n + 1) = true) (h : (w.rowAt g).size = n + 1) :
    (rowLoad ty (.pointer (some ⟨g, 0, none⟩))).run P w = .ok (.value (.agg (w.rowAt g))) w := by
  simp only [rowLoad, Sem.run_bind, run_load_row w ht h, Result.andThen_ok, Sem.run_pure]
theorem run_rowStore {P : Program} {ty : TypeId} {n g : Nat} {cs : Array Value} (ht : P.rowType ty n = true) (hf : w.rowFree g = true) (h : (w.rowAt g).size = n) (hc : cs.size = n) (h1 : cs.all (·.oneCell') = true) :
    (rowStore ty (.pointer (some ⟨g, 0, none⟩)) (.agg cs)).run P w = .ok .skip (w.setRow g cs) := by
  simp only [rowStore, Sem.run_bind, run_store_row w ht hf h hc h1, Result.andThen_ok, Sem.run_pure]
theorem run_rowAlloc {P : Program} {ty : TypeId} {cs : Array Value} (hz : (P.info? ty).map (·.zero) = some (some (.agg cs))) :
    (rowAlloc ty).run P w = .ok (.value (.pointer (some ⟨w.heap.size, 0, none⟩))) (w.alloc (.cells cs ty)) := by
  cases hq : P.info? ty with
  | none => simp [hq] at hz
  | some i =>
    have hi : i.zero = some (.agg cs) := by simpa [hq] using hz
    simp [rowAlloc, Instr.alloc, zeroValue, typeInfo, hq, hi, newVar, newRow, Value.cells]
/-- A result that lies in a block. -/
theorem run_result_row {P : Program} {fn : Func} {p : Tmp} {ty : TypeId} {n g : Nat} (hr : fn.results = #[.cell p ty]) (tmps : Array Value) (hp : tmps.getD p undef = .pointer (some ⟨g, 0, none⟩)) (ht : P.rowType ty (n + 1) = true) (h : (w.rowAt g).size = n + 1) :
    (results fn tmps).run P w = .ok (.agg (w.rowAt g)) w := by
  obtain ⟨t, fr, hg⟩ := row_of_size w h
  unfold Program.rowType at ht
  simp only [Bool.and_eq_true, beq_iff_eq] at ht
  cases hu : P.underlying ty with
  | none => simp [hu] at ht
  | some d =>
    have hd : (match d with | .struct _ | .array _ _ => true | _ => false) = true := by
      have := ht.1; rw [hu] at this; cases d <;> simp_all
    exact results_cell_row hr tmps w g t _ fr d hp hg hu hd (by rw [h]; exact ht.2)
end
end Go
/- Ids in memory: loads, stores, building. -/
namespace Go.Proofs.Ytinkdkcmmjfhoaa
set_option linter.unusedVariables false
set_option linter.unusedSimpArgs false
open Go.RowKit

theorem iv_all (l : List Nat) : (iv l).all (·.oneCell') = true := by
  rw [Array.all_eq_true_iff_forall_mem]
  intro v hv
  unfold iv at hv
  simp only [List.mem_toArray, List.mem_map] at hv
  obtain ⟨c, _, rfl⟩ := hv
  rfl
attribute [go_sem] iv_all
/-- 32 zeros. -/
def id0 : List Nat := List.replicate 32 0
theorem id0_len : id0.length = 32 := by simp [id0]
def byteAt (l : List Nat) (i : Nat) : Nat := l.getD i 0
theorem byteAt_eq (l : List Nat) (i : Nat) (h : i < l.length) : byteAt l i = l[i] := by simp [byteAt, h]
theorem byteAt_lt (l : List Nat) (h : ∀ c ∈ l, c < 256) (i : Nat) : byteAt l i < 256 := by
  by_cases hi : i < l.length
  · rw [byteAt_eq l i hi]; exact h _ (List.getElem_mem hi)
  · simp [byteAt, Nat.not_lt.1 hi]
@[go_sem] theorem iv_at (l : List Nat) (i : Nat) (h : i < l.length) : (iv l)[i]? = some (.int .u8 (byteAt l i : Nat)) := by rw [iv_get l i h, byteAt_eq l i h]
@[go_sem] theorem iv_elem (l : List Nat) (i : Nat) (h : i < (iv l).size) : (iv l)[i] = .int .u8 (byteAt l i : Nat) := by
  have h1 := iv_at l i (by rw [iv_size] at h; exact h)
  rw [Array.getElem?_eq_getElem h] at h1
  exact Option.some.inj h1
@[go_sem] theorem iv_set' (l : List Nat) (i : Nat) (c : Nat) : (iv l).setIfInBounds i (.int .u8 (c : Int)) = iv (l.set i c) := iv_set l i c
attribute [go_sem] id0_len List.length_set
theorem rowType_id : Try.prog.rowType 24 32 = true := by kernel_rfl
theorem zero_id : (Try.prog.info? 24).map (·.zero) = some (some (.agg (iv id0))) := by kernel_rfl
section
variable (ρ : Operand → Value) (d : Option Tmp) (x y : Operand) (t : TypeId) (p : String) (a : Array Edge) (g : Option (Nat × Bool)) (w : World)
@[go_sem ↓] theorem ex_load_id : execOp ρ ⟨d, .load 24 x, t, p, a, g⟩ = rowLoad 24 (ρ x) := rfl
@[go_sem ↓] theorem ex_store_id : execOp ρ ⟨d, .store 24 x y, t, p, a, g⟩ = rowStore 24 (ρ x) (ρ y) := rfl
@[go_sem ↓] theorem ex_alloc_id : execOp ρ ⟨d, .alloc 24, t, p, a, g⟩ = rowAlloc 24 := rfl
end
@[go_sem] theorem load_id (w : World) (g : Nat) (h : (w.rowAt g).size = 32) : (rowLoad 24 (.pointer (some ⟨g, 0, none⟩))).run Try.prog w = .ok (.value (.agg (w.rowAt g))) w := run_rowLoad w (n := 31) rowType_id h
@[go_sem] theorem store_id (w : World) (g : Nat) (l : List Nat) (hl : l.length = 32) (h : (w.rowAt g).size = 32) (hf : w.rowFree g = true) : (rowStore 24 (.pointer (some ⟨g, 0, none⟩)) (.agg (iv l))).run Try.prog w = .ok .skip (w.setRow g (iv l)) := run_rowStore w (n := 32) rowType_id hf h (by rw [iv_size]; exact hl) (iv_all l)
@[go_sem] theorem alloc_id (w : World) : (rowAlloc 24).run Try.prog w = .ok (.value (.pointer (some ⟨w.heap.size, 0, none⟩))) (w.alloc (.cells (iv id0) 24)) := run_rowAlloc w zero_id
theorem under_id : Try.prog.underlying 24 = some (.array 32 5) := by kernel_rfl
theorem info_u8 : (Try.prog.info? 5).map (·.size) = some 1 := by kernel_rfl
@[go_sem] theorem index_id (l : List Nat) (i : Nat) (hl : l.length = 32) (h : i < 32) (w : World) : (Instr.index 24 (.agg (iv l)) (.int .i64 (i : Int))).run Try.prog w = .ok (.int .u8 (byteAt l i : Nat)) w := by
  have hs : (sizeOf 5).run Try.prog w = .ok 1 w := by
    have := info_u8
    cases hq : Try.prog.info? 5 with
    | none => rw [hq] at this; cases this
    | some i => simp [hq] at this; simp [sizeOf, typeInfo, hq, this]
  have hp : (part 5 (iv l) i).run Try.prog w = .ok (.int .u8 (byteAt l i : Nat)) w := by
    have ha : (isAgg 5).run Try.prog w = .ok false w := by
      unfold isAgg
      rw [Sem.run_bind, run_underlying Try.underlying5 w]
      rfl
    simp [part, Sem.run_bind, ha, iv_at l i (by omega)]
  have hi : (0 : Int) ≤ i ∧ (i : Int) < (32 : Nat) := by omega
  simp only [Instr.index, Sem.run_bind, asIntOf, Sem.run_pure, Result.andThen_ok, run_underlying under_id w, if_pos hi, hs, Int.toNat_natCast, Nat.mul_one, hp]

/-- An id: 32 bytes. -/
structure Idb where
  l : List Nat
  len : l.length = 32
  lt : ∀ c ∈ l, c < 256
theorem Idb.ext' {a b : Idb} (h : a.l = b.l) : a = b := by cases a; cases b; cases h; rfl
def Idb.zero : Idb := ⟨id0, id0_len, by unfold id0; simp⟩
attribute [go_sem] Idb.len
/-- An id of one byte, and zeros. -/
def id1 (c : Nat) : List Nat := c :: List.replicate 31 0
@[go_sem] theorem id1_len (c : Nat) : (id1 c).length = 32 := by simp [id1]
def idBuild0 : Sem Next := do let x ← Instr.build 24 #[]; pure (.value x)
def idBuild1 (v : Value) : Sem Next := do let x ← Instr.build 24 #[(0, v)]; pure (.value x)
section
variable (ρ : Operand → Value) (d : Option Tmp) (x : Operand) (t : TypeId) (p : String) (a : Array Edge) (g : Option (Nat × Bool))
@[go_sem ↓] theorem ex_build_id0 : execOp ρ ⟨d, .build 24 #[], t, p, a, g⟩ = idBuild0 := by simp [execOp, idBuild0]
@[go_sem ↓] theorem ex_build_id1 : execOp ρ ⟨d, .build 24 #[(0, x)], t, p, a, g⟩ = idBuild1 (ρ x) := by simp [execOp, idBuild1]
end
@[go_sem] theorem run_idBuild0 (w : World) : idBuild0.run Try.prog w = .ok (.value (.agg (iv id0))) w := by kernel_rfl
theorem run_idBuild1' (c : Nat) (w : World) : (idBuild1 (.int .u8 (c : Int))).run Try.prog w = .ok (.value (.agg (iv (id1 c)))) w := by kernel_rfl
@[go_sem] theorem run_idBuild1 (c : Int) (h : 0 ≤ c) (w : World) : (idBuild1 (.int .u8 c)).run Try.prog w = .ok (.value (.agg (iv (id1 c.toNat)))) w := by
  obtain ⟨n, rfl⟩ := Int.eq_ofNat_of_zero_le h
  exact run_idBuild1' n w
end Go.Proofs.Ytinkdkcmmjfhoaa
/- Bytes as strings. No program in sight. -/
namespace Go.Proofs.Ytinkdkcmmjfhoaa
set_option linter.unusedVariables false
set_option linter.unusedSimpArgs false
open Go.RowKit

/-- The string of bytes. -/
def bstr (l : List Nat) : ByteArray := ⟨(l.map UInt8.ofNat).toArray⟩
theorem bstr_toList (l : List Nat) : (bstr l).toList = l.map UInt8.ofNat := ByteArray.toList_mk _
theorem u8_inj {a b : Nat} (ha : a < 256) (hb : b < 256) (h : UInt8.ofNat a = UInt8.ofNat b) : a = b := by
  have := congrArg UInt8.toNat h
  simpa [Nat.mod_eq_of_lt ha, Nat.mod_eq_of_lt hb] using this
theorem u8_lt {a b : Nat} (ha : a < 256) (hb : b < 256) : UInt8.ofNat a < UInt8.ofNat b ↔ a < b := by
  rw [UInt8.lt_iff_toNat_lt]
  simp [Nat.mod_eq_of_lt ha, Nat.mod_eq_of_lt hb]
/-- Which of two rows of bytes comes first. -/
def lexB : List Nat → List Nat → Bool
  | _, [] => false
  | [], _ :: _ => true
  | a :: x, b :: y => decide (a < b) || (decide (a = b) && lexB x y)
theorem less_bstr : ∀ (l k : List Nat), (∀ c ∈ l, c < 256) → (∀ c ∈ k, c < 256) → Op.bytesLess (bstr l).toList (bstr k).toList = lexB l k := by
  intro l k
  rw [bstr_toList, bstr_toList]
  induction l generalizing k with
  | nil => intro _ _; cases k <;> rfl
  | cons a l ih =>
    intro h1 h2
    cases k with
    | nil => rfl
    | cons b k =>
      have ha := h1 a (by simp)
      have hb := h2 b (by simp)
      simp only [List.map_cons, Op.bytesLess, lexB]
      rw [ih k (fun c hc => h1 c (by simp [hc])) (fun c hc => h2 c (by simp [hc]))]
      congr 1
      · rw [Bool.eq_iff_iff, decide_eq_true_eq, decide_eq_true_eq]; exact u8_lt ha hb
      · congr 1
        rw [Bool.eq_iff_iff, beq_iff_eq, decide_eq_true_eq]
        exact ⟨u8_inj ha hb, fun h => by rw [h]⟩
theorem eq_bstr : ∀ (l k : List Nat), (∀ c ∈ l, c < 256) → (∀ c ∈ k, c < 256) → ((bstr l).toList == (bstr k).toList) = decide (l = k) := by
  intro l k h1 h2
  rw [bstr_toList, bstr_toList, Bool.eq_iff_iff, beq_iff_eq, decide_eq_true_eq]
  constructor
  · intro h
    induction l generalizing k with
    | nil => cases k with
      | nil => rfl
      | cons b k => simp at h
    | cons a l ih =>
      cases k with
      | nil => simp at h
      | cons b k =>
        simp only [List.map_cons, List.cons.injEq] at h
        rw [u8_inj (h1 a (by simp)) (h2 b (by simp)) h.1, ih k (fun c hc => h1 c (by simp [hc])) (fun c hc => h2 c (by simp [hc])) h.2]
  · intro h; rw [h]
theorem lexB_num : ∀ (l k : List Nat), l.length = k.length → (∀ c ∈ l, c < 256) → (∀ c ∈ k, c < 256) → lexB l k = decide (numB l < numB k) := by
  intro l
  induction l with
  | nil => intro k h _ _; have : k = [] := List.length_eq_zero_iff.1 h.symm; subst this; simp [lexB]
  | cons a l ih =>
    intro k h h1 h2
    cases k with
    | nil => simp at h
    | cons b k =>
      have hl : l.length = k.length := by simpa using h
      have e1 : numB (a :: l) = a * 256 ^ l.length + numB l := by
        have := numB_append [a] l
        simpa [numB] using this
      have e2 : numB (b :: k) = b * 256 ^ k.length + numB k := by
        have := numB_append [b] k
        simpa [numB] using this
      have g1 := numB_lt l fun c hc => h1 c (by simp [hc])
      have g2 := numB_lt k fun c hc => h2 c (by simp [hc])
      simp only [lexB]
      rw [ih k hl (fun c hc => h1 c (by simp [hc])) (fun c hc => h2 c (by simp [hc])), e1, e2, hl]
      rw [hl] at g1
      generalize 256 ^ k.length = p at *
      generalize numB l = x at *
      generalize numB k = y at *
      rw [Bool.eq_iff_iff]
      simp only [Bool.or_eq_true, Bool.and_eq_true, decide_eq_true_eq]
      rcases Nat.lt_trichotomy a b with hab | hab | hab
      · have := Nat.mul_le_mul_right p (show a + 1 ≤ b from hab)
        rw [Nat.add_mul, Nat.one_mul] at this
        exact ⟨fun _ => by omega, fun _ => .inl hab⟩
      · subst hab
        exact ⟨fun h => by rcases h with h | h <;> omega, fun h => .inr ⟨rfl, by omega⟩⟩
      · have := Nat.mul_le_mul_right p (show b + 1 ≤ a from hab)
        rw [Nat.add_mul, Nat.one_mul] at this
        exact ⟨fun h => by rcases h with h | h <;> omega, fun h => by omega⟩

/-- The bytes that lie in a row. -/
def rowNats (cs : Array Value) (o n : Nat) : List Nat := (List.range n).map fun i => match cs[o + i]? with | some (.int .u8 a) => a.toNat | _ => 0
def rowOk (cs : Array Value) (o n : Nat) : Bool := (List.range n).all fun i => match cs[o + i]? with | some (.int .u8 a) => decide (0 ≤ a ∧ a < 256) | _ => false
theorem rowNats_length (cs : Array Value) (o n : Nat) : (rowNats cs o n).length = n := by simp [rowNats]
theorem rowNats_iv (l : List Nat) (o n : Nat) (h : o + n ≤ l.length) : rowNats (iv l) o n = (l.drop o).take n := by
  apply List.ext_getElem
  · simp [rowNats]; omega
  · intro i h1 h2
    simp only [rowNats_length] at h1
    simp only [rowNats, List.getElem_map, List.getElem_range, iv_get l (o + i) (by omega), List.getElem_take, List.getElem_drop]
    omega
theorem rowOk_iv (l : List Nat) (o n : Nat) (h : o + n ≤ l.length) (hc : ∀ c ∈ l, c < 256) : rowOk (iv l) o n = true := by
  unfold rowOk
  rw [List.all_eq_true]
  intro i hi
  have hi' : i < n := by simpa using hi
  rw [iv_get l (o + i) (by omega)]
  have := hc l[o + i] (List.getElem_mem _)
  simp; omega
theorem rowNats_all (l : List Nat) (n : Nat) (h : l.length = n) : rowNats (iv l) 0 n = l := by
  rw [rowNats_iv l 0 n (by omega), List.drop_zero, List.take_of_length_le (by omega)]
theorem run_bytes_row {P : Program} (w : World) (src dst e : TypeId) (g o n c : Nat)
    (hs : P.underlying src = some (.slice e)) (he : P.underlying e = some (.int .u8)) (hd : P.underlying dst = some .string) (h : rowOk (w.rowAt g) o n = true) :
    (convert src dst (.slice (some ⟨g, o, none⟩) n c)).run P w = .ok (.string (bstr (rowNats (w.rowAt g) o n))) w := by
  rw [run_convert_bytes_string w src dst e _ _ _ hs he hd]
  unfold rowOk at h
  rw [List.all_eq_true] at h
  have hl := run_loadCells_list (P := P) (w := w) ⟨g, o, none⟩ ((rowNats (w.rowAt g) o n).map fun (c : Nat) => Value.int .u8 (c : Int)) (fun j v hv => by
    have hj : j < n := by
      have := (List.getElem?_eq_some_iff.1 hv).1
      simpa [rowNats] using this
    have hb := h j (by simpa using hj)
    have hadd : (⟨g, o, none⟩ : Addr).add j = ⟨g, o + j, none⟩ := by unfold Addr.add; split <;> simp_all
    rw [hadd, cell_rowAt]
    simp only [rowNats, List.map_map, List.getElem?_map, List.getElem?_range hj, Option.map_some, Function.comp] at hv
    split at hb
    · rename_i a ha
      rw [ha] at hv ⊢
      simp only [decide_eq_true_eq] at hb
      simp only [Option.some.injEq] at hv
      rw [← hv]
      congr 2
      omega
    · cases hb)
  rw [List.length_map, rowNats_length] at hl
  have hm : ((rowNats (w.rowAt g) o n).map fun (c : Nat) => Value.int .u8 (c : Int)) = (((rowNats (w.rowAt g) o n).map fun (c : Nat) => (c : Int)).map (Value.int .u8)) := by simp
  rw [hm] at hl
  rw [run_bytesToString w ⟨g, o, none⟩ n c _ hl]
  congr 2
  generalize rowNats (w.rowAt g) o n = l
  have key : ∀ (l : List Nat) (s : ByteArray), (l.map fun (c : Nat) => (c : Int)).foldl (fun r n => r.push (UInt8.ofNat n.toNat)) s = ⟨(s.data.toList ++ l.map UInt8.ofNat).toArray⟩ := by
    intro l
    induction l with
    | nil => intro s; simp
    | cons a l ih =>
      intro s
      simp only [List.map_cons, List.foldl_cons, Int.toNat_natCast]
      rw [ih]
      simp [ByteArray.push]
  rw [key]
  rfl
end Go.Proofs.Ytinkdkcmmjfhoaa
/- Ids by '==', as strings, and as results. -/
namespace Go.Proofs.Ytinkdkcmmjfhoaa
set_option linter.unusedVariables false
set_option linter.unusedSimpArgs false
open Go.RowKit

/-- Are two ids the same? -/
def ieq (a b : List Nat) : Bool := decide (a = b)
theorem equal_id (a b : List Nat) (ha : a.length = 32) (hb : b.length = 32) (w : World) : (Op.equalIn 10000 24 (.agg (iv a)) (.agg (iv b))).run Try.prog w = .ok (ieq a b) w := by
  have e : ∀ l : List Nat, iv l = ((l.map fun (c : Nat) => (c : Int)).map (Value.int .u8)).toArray := fun l => by simp [iv]
  rw [e, e, show (10000 : Nat) = 9998 + 2 from rfl, run_equalIn_ints w 9998 under_id Try.underlying5 (by kernel_rfl) _ _ (by simp [ha]) (by simp [hb])]
  congr 1
  unfold ieq
  rw [Bool.eq_iff_iff, decide_eq_true_eq, decide_eq_true_eq]
  constructor
  · intro h
    refine (List.map_inj_right ?_).1 h
    intro x y e
    omega
  · intro h; rw [h]
attribute [go_sem] equal_id
@[go_sem] theorem guard_id : Try.prog.eqGuardType Try.prog.depth 24 = false := by kernel_rfl

theorem run_id_string (w : World) (g n c : Nat) (h : rowOk (w.rowAt g) 0 n = true) : (convert 38 9 (.slice (some ⟨g, 0, none⟩) n c)).run Try.prog w = .ok (.string (bstr (rowNats (w.rowAt g) 0 n))) w :=
  run_bytes_row w 38 9 5 g 0 n c Try.underlying38 Try.underlying5 Try.underlying9 h
attribute [go_sem] run_id_string
@[go_sem] theorem rowOk_id (a : Idb) : rowOk (iv a.l) 0 32 = true := rowOk_iv a.l 0 32 (by rw [a.len]; exact Nat.le_refl _) a.lt
@[go_sem] theorem rowNats_id (a : Idb) : rowNats (iv a.l) 0 32 = a.l := rowNats_all a.l 32 a.len

theorem id_result {fn : Func} {p : Tmp} {g : Nat} {w : World} {l : List Nat} (hr : fn.results = #[.cell p 24]) (tmps : Array Value) (hp : tmps.getD p undef = .pointer (some ⟨g, 0, none⟩)) (h : w.rowAt g = iv l) (hl : l.length = 32) :
    (results fn tmps).run Try.prog w = .ok (.agg (iv l)) w := by
  have := run_result_row w (n := 31) hr tmps hp rowType_id (by rw [h, iv_size, hl])
  rwa [h] at this
end Go.Proofs.Ytinkdkcmmjfhoaa
/- slices.Grow, slices.Concat of bytes. -/
namespace Go.Proofs.Ytinkdkcmmjfhoaa
set_option linter.unusedVariables false
set_option linter.unusedSimpArgs false
open Go.RowKit
/-- The cells of bytes. -/
def bys (l : List Nat) : List Value := l.map fun (c : Nat) => Value.int .u8 (c : Int)
theorem bys_len (l : List Nat) : (bys l).length = l.length := by simp [bys]
theorem bys_append (l m : List Nat) : bys (l ++ m) = bys l ++ bys m := by simp [bys]
theorem bys_one (l : List Nat) : ∀ x ∈ bys l, x.oneCell' = true := by
  intro x hx
  obtain ⟨c, _, rfl⟩ := List.mem_map.1 hx
  rfl
theorem under_bs : Try.prog.underlying 38 = some (.slice 5) := by kernel_rfl
theorem info_b : ∃ i, Try.prog.info? 5 = some i ∧ i.zero = some (.int .u8 0) ∧ i.size = 1 ∧ i.bytes = 1 := by
  refine ⟨_, rfl, ?_, ?_, ?_⟩ <;> kernel_rfl
set_option maxRecDepth 100000 in
set_option maxHeartbeats 1600000 in
theorem grow_w (n : Nat) (hn : n ≤ 1099511627776) (w : World) :
    Calls Try.prog 71 #[.slice none 0 0, .int .i64 (n : Int)] w fun e w' => ∃ v, e = .returned v ∧ OwnR w' w.heap.size 5 v [] ∧ Grew w w' := by
  obtain ⟨i, hi, hz, hs, hb⟩ := info_b
  by_cases h0 : n = 0
  · subst h0
    go_enter Try.func71, Try.ntmps71
    go_wp2
    go_ret
    exact ⟨_, rfl, OwnR.nil _ _ _, (by repeat (first | with_reducible exact Grew.refl _ | with_reducible apply Grew.alloc | with_reducible apply Grew.grow | with_reducible apply Grew.drew | with_reducible apply Grew.drewN))⟩
  · have h1 : ¬ ((n : Int) < 0) := by omega
    have h2 : 0 < (n : Int) := by omega
    have hr := fun w => Lib.run_append_nil_zeros (P := Try.prog) w 38 3 38 5 i (.int .u8 0) .i64 .i64 under_bs (by kernel_rfl) hi hz n (by omega) (by omega) (by omega) (by rw [hb]; omega)
    go_enter Try.func71, Try.ntmps71
    go_wp2_with (at_builtin; refine Lib.wpList_append_run _ rfl _ _ _ _ rfl _ _ rfl rfl _ _ (hr _) ?_)
    go_ret
    have hcap := grownCap_ge w n 0 5
    have hmax := grownCap_le_maxLen w n 0 5 (by simp only [maxLen]; omega)
    exact ⟨_, rfl, ⟨rfl, .inr ⟨_, _, _, rfl, Nat.le_refl _, heap_alloc_new w _, Nat.zero_le _, hmax, by simp [Builtin.zeroCells, Value.cells]; omega, rfl⟩⟩, (by repeat (first | with_reducible exact Grew.refl _ | with_reducible apply Grew.alloc | with_reducible apply Grew.grow | with_reducible apply Grew.drew | with_reducible apply Grew.drewN))⟩
def catk (ls : List (List Nat)) (k : Nat) : List Nat := (ls.take k).flatten
theorem catk_0 (ls : List (List Nat)) : catk ls 0 = [] := by simp [catk]
theorem catk_succ (ls : List (List Nat)) (k : Nat) (h : k < ls.length) : catk ls (k + 1) = catk ls k ++ ls.getD k [] := by
  unfold catk
  rw [List.take_add_one, List.flatten_append]
  congr 1
  simp [List.getD, h]
theorem catk_all (ls : List (List Nat)) : catk ls ls.length = ls.flatten := by simp [catk]
theorem catk_le (ls : List (List Nat)) (k : Nat) : (catk ls k).length ≤ ls.flatten.length := by
  unfold catk
  conv => rhs; rw [← List.take_append_drop k ls]
  rw [List.flatten_append, List.length_append]
  omega
theorem catk_len (ls : List (List Nat)) (k : Nat) (h : k < ls.length) : (catk ls (k + 1)).length = (catk ls k).length + (ls.getD k []).length := by rw [catk_succ ls k h, List.length_append]
theorem shows_form {w : World} {v : Value} {xs : List Value} (h : Shows w v xs) : ∃ p c, v = .slice p xs.length c := by
  rcases h with ⟨b, o, c, rfl, _⟩ | ⟨p, c, rfl, rfl⟩
  · exact ⟨_, _, rfl⟩
  · exact ⟨_, _, rfl⟩
/-- Here the walk halts. -/
def Stop (p : Prop) : Prop := p
theorem stop_of {p : Prop} (h : Stop p) : p := h
set_option maxRecDepth 100000 in
set_option maxHeartbeats 1600000 in
theorem concat_w (ls : List (List Nat)) (vs : List Value) (lv : Value) (w : World) (hvs : vs.length = ls.length) (hl : Shows w lv vs)
    (hs : ∀ k, k < ls.length → Shows w (vs.getD k undef) (bys (ls.getD k []))) (hN : ls.flatten.length ≤ 1099511627776) (hL : ls.length ≤ 1099511627776) :
    Calls Try.prog 58 #[lv] w fun e w' => ∃ v, e = .returned v ∧ OwnR w' w.heap.size 5 v (bys ls.flatten) ∧ Grew w w' := by
  obtain ⟨i, hi, hz, hsz, hby⟩ := info_b
  rcases hl with ⟨b, o, c, rfl, hb, hc⟩ | ⟨p0, c0, rfl, h0⟩
  · have HC := Lib.hid hc
    have HS := Lib.hid hs
    have HV := Lib.hid hvs
    rw [hvs]
    clear hc hs hvs
    go_enter Try.func58, Try.ntmps58
    go_wp2
    go_loopw [11, 3] (fun n m wr => ∃ k : Nat, k ≤ ls.length ∧ n = .int .i64 k ∧ m = .int .i64 ((catk ls k).length : Nat) ∧ wr = w) (fun n _ _ => ls.length - (intOf n).toNat)
    case atStart => exact ⟨0, by omega, rfl, rfl, rfl⟩
    case round =>
      obtain ⟨k, hk, rfl, rfl, rfl⟩ := hrel
      by_cases hn : k < ls.length
      · have hlt : (k : Int) < (ls.length : Int) := by omega
        obtain ⟨p, c', hv⟩ := shows_form (HS.out k hn)
        have hcell := HC.out k (.slice p (bys (ls.getD k [])).length c') (by rw [← hv]; simp [List.getD, HV.out, hn])
        rw [bys_len] at hcell
        have e1 := catk_len ls k hn
        have e2 := catk_le ls (k + 1)
        have e3 : (((catk ls k).length : Int) + ((ls.getD k []).length : Int)) = ((catk ls (k + 1)).length : Nat) := by omega
        have e4 : ¬ (((catk ls (k + 1)).length : Int) < 0) := by omega
        clear hv
        generalize (ls.getD k []).length = q at *
        have e6 : IntKind.i64.wrap (((catk ls k).length : Int) + (q : Int)) = ((catk ls (k + 1)).length : Nat) := by rw [IntKind.wrap_i64]; omega
        clear e1 e2 e3
        obtain ⟨q1, hq1⟩ : ∃ q1, (catk ls k).length = q1 := ⟨_, rfl⟩
        obtain ⟨q2, hq2⟩ : ∃ q2, (catk ls (k + 1)).length = q2 := ⟨_, rfl⟩
        rw [hq1, hq2] at e6
        rw [hq2] at e4
        rw [hq1]
        have HQ := Lib.hid hq2
        clear hq1 hq2
        go_wp2
        exact ⟨⟨k + 1, by omega, by go_num, by rw [HQ.out], trivial⟩, by simp only [intOf]; omega⟩
      · obtain rfl : k = ls.length := by omega
        clear hk hn
        have hge : ¬ ((ls.length : Int) < (ls.length : Int)) := by omega
        go_wp2_with (go_at_call 71; refine (grow_w _ (by rw [catk_all]; exact hN) _).mono ?_; rintro e w' ⟨v, rfl, ho, hg⟩)
        have HG := Lib.hid hg
        have HO := Lib.hid ho
        have hb2 : wr.heap.size ≤ w'.heap.size := hg.size
        clear hg ho
        go_loopw [27, 6] (fun n v2 w2 => ∃ k : Nat, k ≤ ls.length ∧ n = .int .i64 k ∧ OwnR w2 wr.heap.size 5 v2 (bys (catk ls k)) ∧ Grew wr w2) (fun n _ _ => ls.length - (intOf n).toNat)
        case atStart => exact ⟨0, by omega, rfl, by rw [catk_0]; exact HO.out, HG.out⟩
        case round =>
          obtain ⟨k, hk, rfl, ho2, hg2⟩ := hrel
          by_cases hn : k < ls.length
          · have hlt : (k : Int) < (ls.length : Int) := by omega
            have hsk := (HS.out k hn).grew hg2
            obtain ⟨p, c', hv⟩ := shows_form (HS.out k hn)
            rw [hv, bys_len] at hsk
            have hcell := hg2.cell (HC.out k (.slice p (bys (ls.getD k [])).length c') (by rw [← hv]; simp [List.getD, HV.out, hn]))
            rw [bys_len] at hcell
            have e1 := catk_len ls k hn
            have e2 := catk_le ls (k + 1)
            have HS2 := hsk
            have HO2 := Lib.hid ho2
            have HG2 := Lib.hid hg2
            have hsz2 := hg2.size
            have e7 := catk_succ ls k hn
            obtain ⟨m, hm⟩ : ∃ m, ls.getD k [] = m := ⟨_, rfl⟩
            rw [hm] at HS2 hcell e1 e7
            have E7 := Lib.hid e7
            have HS3 := Lib.hid HS2
            clear HS2
            clear hv hsk ho2 hg2 hm e7
            go_wp2_with (at_builtin; refine stop_of ?_)
            unfold Stop
            refine wpList_append_shows rfl _ _ _ rfl _ _ i _ 1 under_bs hi hz hsz hby rfl _ _ rfl rfl _ _ HO2.out HS3.out (bys_one _) (by rw [bys_len, bys_len]; simp only [maxLen]; omega) (by rw [bys_len, bys_len]; omega) hsz2 ?_
            intro v' w2' ho' hg'
            have hrow := HO2.out.block
            go_wp2
            refine ⟨⟨k + 1, by omega, by go_num, by rw [E7.out, bys_append]; exact ho', Grew.grown HG2.out hg' fun j hj => (hrow j hj).1⟩, by simp only [intOf]; omega⟩
          · obtain rfl : k = ls.length := by omega
            clear hk hn
            have hge : ¬ ((ls.length : Int) < (ls.length : Int)) := by omega
            rw [catk_all] at ho2
            go_wp2
            go_ret
            exact ⟨_, rfl, ho2, hg2⟩
  · obtain rfl : vs = [] := h0
    obtain rfl : ls = [] := List.length_eq_zero_iff.1 hvs.symm
    go_enter Try.func58, Try.ntmps58
    go_wp2
    go_loopw [11, 3] (fun n m wr => n = .int .i64 0 ∧ m = .int .i64 0 ∧ wr = w) (fun _ _ _ => 0)
    case atStart => exact ⟨rfl, rfl, rfl⟩
    case round =>
      obtain ⟨rfl, rfl, rfl⟩ := hrel
      go_wp2_with (go_at_call 71; refine (grow_w 0 (by omega) _).mono ?_; rintro e w' ⟨v, rfl, ho, hg⟩)
      have HG := Lib.hid hg
      have HO := Lib.hid ho
      clear hg ho
      go_loopw [27, 6] (fun n v2 w2 => n = .int .i64 0 ∧ OwnR w2 wr.heap.size 5 v2 [] ∧ Grew wr w2) (fun _ _ _ => 0)
      case atStart => exact ⟨rfl, HO.out, HG.out⟩
      case round =>
        obtain ⟨rfl, ho2, hg2⟩ := hrel
        go_wp2
        go_ret
        exact ⟨_, rfl, ho2, hg2⟩
end Go.Proofs.Ytinkdkcmmjfhoaa
/- Slices of ids, arrays of two ids. -/
namespace Go.Proofs.Ytinkdkcmmjfhoaa
set_option linter.unusedVariables false
set_option linter.unusedSimpArgs false
open Go.RowKit
/-- An id's cells. -/
def Idb.cs (x : Idb) : List Value := bys x.l
theorem Idb.cs_len (x : Idb) : x.cs.length = 32 := by unfold Idb.cs; rw [bys_len, x.len]
theorem bys_iv (l : List Nat) : (bys l).toArray = iv l := rfl
theorem World.rangeAt.grew {w w' : World} {b o : Nat} {cs : List Value} (h : w.rangeAt b o cs) (g : Grew w w') : w'.rangeAt b o cs := fun j v hj => g.cell (h j v hj)
theorem size_id : (Try.prog.info? 24).map (·.size) = some 32 := by kernel_rfl
/-- The load of an id from the middle of a block. -/
theorem load_idm {w : World} {b o : Nat} {x : Idb} (h : w.rangeAt b o x.cs) : (rowLoad 24 (.pointer (some ⟨b, o, none⟩))).run Try.prog w = .ok (.value (.agg (iv x.l))) w := by
  unfold rowLoad
  rw [Sem.run_bind, run_loadAt_mid w b o 24 x.cs _ h under_id rfl (by rw [x.cs_len]; exact size_id)]
  rfl
theorem load_idg {w : World} {b o : Nat} {x : Idb} (h : w.rangeAt b o x.cs) (δ : Junk) : (rowLoad 24 (.pointer (some ⟨b, o, none⟩))).run Try.prog (w.grow δ) = .ok (.value (.agg (iv x.l))) (w.grow δ) := load_idm (World.rangeAt.grew h ⟨δ, rfl⟩)
/-- The slice shows these ids. -/
def ShowsI (w : World) (v : Value) (ls : List Idb) : Prop :=
  (∃ b o c, v = .slice (some ⟨b, o, none⟩) ls.length c ∧ ls.length ≤ c ∧ b < w.heap.size ∧ ∀ j x, ls[j]? = some x → w.rangeAt b (o + j * 32) x.cs) ∨ (∃ p c, v = .slice p 0 c ∧ ls = [])
theorem ShowsI.grew {w w' : World} {v : Value} {ls : List Idb} (h : ShowsI w v ls) (g : Grew w w') : ShowsI w' v ls := by
  rcases h with ⟨b, o, c, rfl, hc, hb, h⟩ | h
  · exact .inl ⟨b, o, c, rfl, hc, Nat.lt_of_lt_of_le hb g.size, fun j x hj => World.rangeAt.grew (h j x hj) g⟩
  · exact .inr h
theorem showsI_form {w : World} {v : Value} {ls : List Idb} (h : ShowsI w v ls) : ∃ p c, v = .slice p ls.length c := by
  rcases h with ⟨b, o, c, rfl, _⟩ | ⟨p, c, rfl, rfl⟩
  · exact ⟨_, _, rfl⟩
  · exact ⟨_, _, rfl⟩
theorem showsI_some {w : World} {p : Option Addr} {n c : Nat} {ls : List Idb} (h : ShowsI w (.slice p n c) ls) (hne : 0 < ls.length) : ∃ b o, p = some ⟨b, o, none⟩ ∧ n = ls.length ∧ ls.length ≤ c ∧ b < w.heap.size ∧ ∀ j x, ls[j]? = some x → w.rangeAt b (o + j * 32) x.cs := by
  rcases h with ⟨b, o, c', he, hc, hb, h⟩ | ⟨p', c', he, rfl⟩
  · simp only [Value.slice.injEq] at he
    exact ⟨b, o, he.1, he.2.1, he.2.2 ▸ hc, hb, h⟩
  · simp at hne
/-- A part of the ids. -/
theorem showsI_part {w : World} {b o : Nat} {ls : List Idb} (hb : b < w.heap.size) (h : ∀ j x, ls[j]? = some x → w.rangeAt b (o + j * 32) x.cs) (i n c' : Nat) (hi : i + n ≤ ls.length) (hc : n ≤ c') : ShowsI w (.slice (some ⟨b, o + i * 32, none⟩) n c') ((ls.drop i).take n) := by
  have hlen : ((ls.drop i).take n).length = n := by rw [List.length_take, List.length_drop]; omega
  refine .inl ⟨b, o + i * 32, c', by rw [hlen], by omega, hb, fun j x hj => ?_⟩
  have hj2 : j < n := by have := (List.getElem?_eq_some_iff.1 hj).1; omega
  rw [List.getElem?_take, if_pos hj2, List.getElem?_drop] at hj
  have := h (i + j) x hj
  rwa [show o + (i + j) * 32 = o + i * 32 + j * 32 by omega] at this
/-- Two ids. -/
def pair (a b : List Nat) : List Nat := a ++ b
def pairBuild (x y : Value) : Sem Next := do let v ← Instr.build 54 #[(0, x), (1, y)]; pure (.value v)
section
variable {ρ : Operand → Value} {d : Option Tmp} {x y : Operand} {t : TypeId} {p : String} {a : Array Edge} {g : Option (Nat × Bool)}
@[go_sem ↓] theorem ex_pairBuild : execOp ρ ⟨d, .build 54 #[(0, x), (1, y)], t, p, a, g⟩ = pairBuild (ρ x) (ρ y) := by simp [execOp, pairBuild]
end
theorem foldl_set (cs : List Value) : ∀ (k off : Nat) (C : Array Value), off + k + cs.length ≤ C.size → ((cs.zipIdx k).foldl (fun C (c, j) => C.setIfInBounds (off + j) c) C).toList = C.toList.take (off + k) ++ cs ++ C.toList.drop (off + k + cs.length) := by
  induction cs with
  | nil => intro k off C _; simp
  | cons c cs ih =>
    intro k off C h
    rw [List.zipIdx_cons, List.foldl_cons, ih (k + 1) off _ (by simpa using (by simp at h; omega))]
    simp only [List.length_cons] at h
    have hlt : off + k < C.toList.length := by simp; omega
    rw [Array.toList_setIfInBounds]
    rw [List.take_set, List.drop_set_of_lt (by omega)]
    rw [show off + (k + 1) = off + k + 1 by omega, List.take_add_one, List.getElem?_eq_getElem hlt]
    rw [List.set_append_right _ _ (by simp; omega)]
    simp only [List.length_cons, Option.toList_some, List.length_take]
    rw [show off + k - min (off + k) C.toList.length = 0 by omega]
    simp [show off + k + 1 + cs.length = off + k + (cs.length + 1) by omega]
theorem under_pair : Try.prog.underlying 54 = some (.array 2 24) := by kernel_rfl
theorem zero_pair : ∃ i, Try.prog.info? 54 = some i ∧ i.zero = some (.agg (Array.replicate 64 (.int .u8 0))) ∧ i.size = 64 := by
  refine ⟨_, rfl, ?_, ?_⟩ <;> kernel_rfl
@[go_sem] theorem run_pairBuild (a b : List Nat) (ha : a.length = 32) (hb : b.length = 32) (w : World) : (pairBuild (.agg (iv a)) (.agg (iv b))).run Try.prog w = .ok (.value (.agg (iv (pair a b)))) w := by
  obtain ⟨i, hi, hz, _⟩ := zero_pair
  obtain ⟨i2, hi2⟩ : ∃ i, Try.prog.info? 24 = some i := ⟨_, rfl⟩
  have hs2 : i2.size = 32 := by have := size_id; rw [hi2] at this; simpa using this
  have sa : (Value.agg (iv a)).cells = iv a := rfl
  have sb : (Value.agg (iv b)).cells = iv b := rfl
  have za : (iv a).size = 32 := by rw [iv_size, ha]
  have zb : (iv b).size = 32 := by rw [iv_size, hb]
  unfold pairBuild Instr.build
  have hz2 : (zeroValue 54).run Try.prog w = .ok (.agg (Array.replicate 64 (.int .u8 0))) w := by simp [zeroValue, typeInfo, hi, hz]
  have hs3 : (sizeOf 24).run Try.prog w = .ok 32 w := by simp [sizeOf, typeInfo, hi2, hs2]
  have hf : Instr.fill (fun i => some (i * 32, 32)) (Array.replicate 64 (Value.int .u8 0)) [(0, .agg (iv a)), (1, .agg (iv b))] = some (iv (pair a b)) := by
    simp only [Instr.fill, sa, sb, za, zb, Array.size_replicate]
    have ea : (iv a).zipIdx = ((bys a).zipIdx).toArray := by rw [← bys_iv]; simp
    have eb : (iv b).zipIdx = ((bys b).zipIdx).toArray := by rw [← bys_iv]; simp
    have la : (bys a).length = 32 := by rw [bys_len, ha]
    have lb : (bys b).length = 32 := by rw [bys_len, hb]
    rw [ea, eb, List.foldl_toArray, List.foldl_toArray]
    have h1 := foldl_set (bys a) 0 (0 * 32) (Array.replicate 64 (.int .u8 0)) (by simp [la])
    obtain ⟨C, hC⟩ : ∃ C, ((bys a).zipIdx.foldl (fun cs (x : Value × Nat) => cs.setIfInBounds (0 * 32 + x.2) x.1) (Array.replicate 64 (Value.int .u8 0))) = C := ⟨_, rfl⟩
    have h1' : C.toList = (Array.replicate 64 (Value.int .u8 0)).toList.take 0 ++ bys a ++ (Array.replicate 64 (Value.int .u8 0)).toList.drop 32 := by
      rw [← hC]; simpa [la] using h1
    rw [hC]
    have hsz : C.size = 64 := by
      have := congrArg List.length h1'
      simpa [la] using this
    have h2 := foldl_set (bys b) 0 (1 * 32) C (by simp [lb, hsz])
    rw [if_neg (by decide), if_neg (by simp [hsz])]
    congr 1
    apply Array.ext'
    refine h2.trans ?_
    obtain ⟨Z, hZ⟩ : ∃ Z, (Array.replicate 64 (Value.int .u8 0)).toList.drop 32 = Z := ⟨_, rfl⟩
    have hZl : Z.length = 32 := by rw [← hZ]; simp
    rw [h1', hZ, List.take_zero, List.nil_append, lb]
    have e1 : (bys a ++ Z).take (1 * 32 + 0) = bys a := by
      have := List.take_left (l₁ := bys a) (l₂ := Z)
      rw [la] at this; exact this
    have e2 : (bys a ++ Z).drop (1 * 32 + 0 + 32) = [] := List.drop_of_length_le (by rw [List.length_append, la, hZl]; omega)
    rw [e1, e2, List.append_nil]
    simp [pair, iv, bys]
  simp only [Sem.run_bind, hz2, run_underlying under_pair w, hs3, Result.andThen_ok, Value.cells, List.toArray, hf, Sem.run_pure]
end Go.Proofs.Ytinkdkcmmjfhoaa
/- Words of 32 bits, and sha's right. -/
namespace Go.Proofs.Ytinkdkcmmjfhoaa
set_option linter.unusedVariables false
set_option linter.unusedSimpArgs false
open Go.RowKit

/-- A word as an int: nothing opens it. -/
def u (x : BitVec 32) : Int := (x.toNat : Int)
theorem u_bd (x : BitVec 32) : 0 ≤ u x ∧ u x < 4294967296 := by unfold u; have := x.isLt; omega
theorem bv_u (x : BitVec 32) : BitVec.ofInt 32 (u x) = x := by
  unfold u
  apply BitVec.eq_of_toNat_eq
  rw [BitVec.ofInt_natCast, BitVec.toNat_ofNat]
  exact Nat.mod_eq_of_lt x.isLt
theorem wrap_u (x : BitVec 32) : IntKind.u32.wrap (u x) = u x := by
  have := u_bd x
  show (u x) % 4294967296 = _
  omega
attribute [go_sem] wrap_u
@[go_sem] theorem bits_xor_u (x y : BitVec 32) : bits .xor .u32 (u x) (u y) = u (x ^^^ y) := by
  show IntKind.u32.wrap ((BitVec.ofInt 32 (u x) ^^^ BitVec.ofInt 32 (u y)).toNat : Int) = _
  rw [bv_u, bv_u]; exact wrap_u _
@[go_sem] theorem bits_and_u (x y : BitVec 32) : bits .and .u32 (u x) (u y) = u (x &&& y) := by
  show IntKind.u32.wrap ((BitVec.ofInt 32 (u x) &&& BitVec.ofInt 32 (u y)).toNat : Int) = _
  rw [bv_u, bv_u]; exact wrap_u _
@[go_sem] theorem bits_or_u (x y : BitVec 32) : bits .or .u32 (u x) (u y) = u (x ||| y) := by
  show IntKind.u32.wrap ((BitVec.ofInt 32 (u x) ||| BitVec.ofInt 32 (u y)).toNat : Int) = _
  rw [bv_u, bv_u]; exact wrap_u _
@[go_sem] theorem bits_not_u (x : BitVec 32) : bits .xor .u32 IntKind.u32.max (u x) = u (~~~ x) := by
  show IntKind.u32.wrap ((BitVec.ofInt 32 IntKind.u32.max ^^^ BitVec.ofInt 32 (u x)).toNat : Int) = _
  rw [bv_u, show BitVec.ofInt 32 IntKind.u32.max = BitVec.allOnes 32 from rfl, BitVec.allOnes_xor]; exact wrap_u _
@[go_sem] theorem wrap_add_u (x y : BitVec 32) : IntKind.u32.wrap (u x + u y) = u (x + y) := by
  unfold u
  rw [BitVec.toNat_add]
  show ((x.toNat : Int) + (y.toNat : Int)) % 4294967296 = _
  omega
theorem u_div (x : BitVec 32) (k : Nat) : u x / 2 ^ k = u (x >>> k) := by
  unfold u
  rw [BitVec.toNat_ushiftRight, Nat.shiftRight_eq_div_pow, Int.natCast_ediv, Int.natCast_pow]; rfl
theorem u_mul (x : BitVec 32) (k : Nat) : IntKind.u32.wrap (u x * 2 ^ k) = u (x <<< k) := by
  unfold u
  rw [BitVec.toNat_shiftLeft, Nat.shiftLeft_eq]
  show ((x.toNat : Int) * 2 ^ k) % 4294967296 = _
  rw [Int.natCast_emod, Int.natCast_mul, Int.natCast_pow]; rfl
theorem rot_u (x : BitVec 32) (s : Nat) (h : s < 32) : bits .or .u32 (IntKind.u32.wrap (u x * 2 ^ s)) (u x / 2 ^ (32 - s)) = u (x.rotateLeft s) := by
  rw [u_mul, u_div, bits_or_u]
  congr 1
  rw [BitVec.rotateLeft_def, Nat.mod_eq_of_lt h]
/-- The word, turned to the right. -/
def rr (n : Nat) (x : BitVec 32) : BitVec 32 := x.rotateLeft (32 - n)
def rotOk (n : Nat) : Prop := n = 2 ∨ n = 6 ∨ n = 7 ∨ n = 11 ∨ n = 13 ∨ n = 17 ∨ n = 18 ∨ n = 19 ∨ n = 22 ∨ n = 25

set_option maxRecDepth 100000 in
set_option maxHeartbeats 1600000 in
theorem rotl_w (x : BitVec 32) (n : Nat) (hn : rotOk n) (w : World) :
    Calls Try.prog 72 #[.int .u32 (u x), .int .i64 (-(n : Int))] w fun e w' => e = .returned (.int .u32 (u (rr n x))) ∧ Grew w w' := by
  have hr := fun s h => rot_u x s h
  have b0 := (u_bd x).1
  rcases hn with rfl | rfl | rfl | rfl | rfl | rfl | rfl | rfl | rfl | rfl
  · have h := hr 30 (by omega)
    have hs : bits .and .u64 (IntKind.u64.wrap (-2)) 31 = 30 := by decide +kernel
    have hs2 : bits .and .u64 (IntKind.u64.wrap (-(((2 : Nat) : Int)))) 31 = 30 := by decide +kernel
    simp only [Nat.reduceSub] at h
    clear hr
    go_enter Try.func72, Try.ntmps72
    go_wp2
    go_ret
    exact ⟨congrArg (fun n : Int => Ending.returned (.int .u32 n)) h, (by repeat (first | with_reducible exact Grew.refl _ | with_reducible apply Grew.alloc | with_reducible apply Grew.grow | with_reducible apply Grew.drew | with_reducible apply Grew.drewN))⟩
  · have h := hr 26 (by omega)
    have hs : bits .and .u64 (IntKind.u64.wrap (-6)) 31 = 26 := by decide +kernel
    have hs2 : bits .and .u64 (IntKind.u64.wrap (-(((6 : Nat) : Int)))) 31 = 26 := by decide +kernel
    simp only [Nat.reduceSub] at h
    clear hr
    go_enter Try.func72, Try.ntmps72
    go_wp2
    go_ret
    exact ⟨congrArg (fun n : Int => Ending.returned (.int .u32 n)) h, (by repeat (first | with_reducible exact Grew.refl _ | with_reducible apply Grew.alloc | with_reducible apply Grew.grow | with_reducible apply Grew.drew | with_reducible apply Grew.drewN))⟩
  · have h := hr 25 (by omega)
    have hs : bits .and .u64 (IntKind.u64.wrap (-7)) 31 = 25 := by decide +kernel
    have hs2 : bits .and .u64 (IntKind.u64.wrap (-(((7 : Nat) : Int)))) 31 = 25 := by decide +kernel
    simp only [Nat.reduceSub] at h
    clear hr
    go_enter Try.func72, Try.ntmps72
    go_wp2
    go_ret
    exact ⟨congrArg (fun n : Int => Ending.returned (.int .u32 n)) h, (by repeat (first | with_reducible exact Grew.refl _ | with_reducible apply Grew.alloc | with_reducible apply Grew.grow | with_reducible apply Grew.drew | with_reducible apply Grew.drewN))⟩
  · have h := hr 21 (by omega)
    have hs : bits .and .u64 (IntKind.u64.wrap (-11)) 31 = 21 := by decide +kernel
    have hs2 : bits .and .u64 (IntKind.u64.wrap (-(((11 : Nat) : Int)))) 31 = 21 := by decide +kernel
    simp only [Nat.reduceSub] at h
    clear hr
    go_enter Try.func72, Try.ntmps72
    go_wp2
    go_ret
    exact ⟨congrArg (fun n : Int => Ending.returned (.int .u32 n)) h, (by repeat (first | with_reducible exact Grew.refl _ | with_reducible apply Grew.alloc | with_reducible apply Grew.grow | with_reducible apply Grew.drew | with_reducible apply Grew.drewN))⟩
  · have h := hr 19 (by omega)
    have hs : bits .and .u64 (IntKind.u64.wrap (-13)) 31 = 19 := by decide +kernel
    have hs2 : bits .and .u64 (IntKind.u64.wrap (-(((13 : Nat) : Int)))) 31 = 19 := by decide +kernel
    simp only [Nat.reduceSub] at h
    clear hr
    go_enter Try.func72, Try.ntmps72
    go_wp2
    go_ret
    exact ⟨congrArg (fun n : Int => Ending.returned (.int .u32 n)) h, (by repeat (first | with_reducible exact Grew.refl _ | with_reducible apply Grew.alloc | with_reducible apply Grew.grow | with_reducible apply Grew.drew | with_reducible apply Grew.drewN))⟩
  · have h := hr 15 (by omega)
    have hs : bits .and .u64 (IntKind.u64.wrap (-17)) 31 = 15 := by decide +kernel
    have hs2 : bits .and .u64 (IntKind.u64.wrap (-(((17 : Nat) : Int)))) 31 = 15 := by decide +kernel
    simp only [Nat.reduceSub] at h
    clear hr
    go_enter Try.func72, Try.ntmps72
    go_wp2
    go_ret
    exact ⟨congrArg (fun n : Int => Ending.returned (.int .u32 n)) h, (by repeat (first | with_reducible exact Grew.refl _ | with_reducible apply Grew.alloc | with_reducible apply Grew.grow | with_reducible apply Grew.drew | with_reducible apply Grew.drewN))⟩
  · have h := hr 14 (by omega)
    have hs : bits .and .u64 (IntKind.u64.wrap (-18)) 31 = 14 := by decide +kernel
    have hs2 : bits .and .u64 (IntKind.u64.wrap (-(((18 : Nat) : Int)))) 31 = 14 := by decide +kernel
    simp only [Nat.reduceSub] at h
    clear hr
    go_enter Try.func72, Try.ntmps72
    go_wp2
    go_ret
    exact ⟨congrArg (fun n : Int => Ending.returned (.int .u32 n)) h, (by repeat (first | with_reducible exact Grew.refl _ | with_reducible apply Grew.alloc | with_reducible apply Grew.grow | with_reducible apply Grew.drew | with_reducible apply Grew.drewN))⟩
  · have h := hr 13 (by omega)
    have hs : bits .and .u64 (IntKind.u64.wrap (-19)) 31 = 13 := by decide +kernel
    have hs2 : bits .and .u64 (IntKind.u64.wrap (-(((19 : Nat) : Int)))) 31 = 13 := by decide +kernel
    simp only [Nat.reduceSub] at h
    clear hr
    go_enter Try.func72, Try.ntmps72
    go_wp2
    go_ret
    exact ⟨congrArg (fun n : Int => Ending.returned (.int .u32 n)) h, (by repeat (first | with_reducible exact Grew.refl _ | with_reducible apply Grew.alloc | with_reducible apply Grew.grow | with_reducible apply Grew.drew | with_reducible apply Grew.drewN))⟩
  · have h := hr 10 (by omega)
    have hs : bits .and .u64 (IntKind.u64.wrap (-22)) 31 = 10 := by decide +kernel
    have hs2 : bits .and .u64 (IntKind.u64.wrap (-(((22 : Nat) : Int)))) 31 = 10 := by decide +kernel
    simp only [Nat.reduceSub] at h
    clear hr
    go_enter Try.func72, Try.ntmps72
    go_wp2
    go_ret
    exact ⟨congrArg (fun n : Int => Ending.returned (.int .u32 n)) h, (by repeat (first | with_reducible exact Grew.refl _ | with_reducible apply Grew.alloc | with_reducible apply Grew.grow | with_reducible apply Grew.drew | with_reducible apply Grew.drewN))⟩
  · have h := hr 7 (by omega)
    have hs : bits .and .u64 (IntKind.u64.wrap (-25)) 31 = 7 := by decide +kernel
    have hs2 : bits .and .u64 (IntKind.u64.wrap (-(((25 : Nat) : Int)))) 31 = 7 := by decide +kernel
    simp only [Nat.reduceSub] at h
    clear hr
    go_enter Try.func72, Try.ntmps72
    go_wp2
    go_ret
    exact ⟨congrArg (fun n : Int => Ending.returned (.int .u32 n)) h, (by repeat (first | with_reducible exact Grew.refl _ | with_reducible apply Grew.alloc | with_reducible apply Grew.grow | with_reducible apply Grew.drew | with_reducible apply Grew.drewN))⟩
set_option maxRecDepth 100000 in
set_option maxHeartbeats 1600000 in
theorem right_w (x : BitVec 32) (n : Nat) (hn : rotOk n) (w : World) :
    Calls Try.prog 61 #[.int .u32 (u x), .int .i64 (n : Int)] w fun e w' => e = .returned (.int .u32 (u (rr n x))) ∧ Grew w w' := by
  have hb : n ≤ 25 := by unfold rotOk at hn; omega
  have Hc := Lib.hid (fun w => rotl_w x n hn w)
  clear hn
  go_enter Try.func61, Try.ntmps61
  go_wp2_with (go_at_call 72; refine (Hc.out _).mono ?_; rintro e w' ⟨rfl, δ, rfl⟩)
  go_ret
  exact ⟨rfl, (by repeat (first | with_reducible exact Grew.refl _ | with_reducible apply Grew.alloc | with_reducible apply Grew.grow | with_reducible apply Grew.drew | with_reducible apply Grew.drewN))⟩
end Go.Proofs.Ytinkdkcmmjfhoaa
/- Arrays of words; what sha computes; its numbers. -/
namespace Go.Proofs.Ytinkdkcmmjfhoaa
set_option linter.unusedVariables false
set_option linter.unusedSimpArgs false
open Go.RowKit

/-- The cells of words. -/
def uv (l : List (BitVec 32)) : Array Value := (l.map fun x => Value.int .u32 (u x)).toArray
theorem uv_size (l : List (BitVec 32)) : (uv l).size = l.length := by simp [uv]
def wordAt (l : List (BitVec 32)) (i : Nat) : BitVec 32 := l.getD i 0
theorem wordAt_eq (l : List (BitVec 32)) (i : Nat) (h : i < l.length) : wordAt l i = l[i] := by simp [wordAt, h]
theorem uv_at (l : List (BitVec 32)) (i : Nat) (h : i < l.length) : (uv l)[i]? = some (.int .u32 (u (wordAt l i))) := by rw [wordAt_eq l i h]; simp [uv, h]
theorem uv_elem (l : List (BitVec 32)) (i : Nat) (h : i < (uv l).size) : (uv l)[i] = .int .u32 (u (wordAt l i)) := by
  have h1 := uv_at l i (by rw [uv_size] at h; exact h)
  rw [Array.getElem?_eq_getElem h] at h1
  exact Option.some.inj h1
theorem uv_set (l : List (BitVec 32)) (i : Nat) (x : BitVec 32) : (uv l).setIfInBounds i (.int .u32 (u x)) = uv (l.set i x) := by
  unfold uv; rw [List.setIfInBounds_toArray, List.map_set]
theorem uv_all (l : List (BitVec 32)) : (uv l).all (·.oneCell') = true := by
  rw [Array.all_eq_true_iff_forall_mem]
  intro v hv
  unfold uv at hv
  simp only [List.mem_toArray, List.mem_map] at hv
  obtain ⟨c, _, rfl⟩ := hv
  rfl
attribute [go_sem] uv_size uv_at uv_elem uv_set uv_all

theorem rowType_w : Try.prog.rowType 82 64 = true := by kernel_rfl
theorem rowType_s : Try.prog.rowType 60 8 = true := by kernel_rfl
def w0 : List (BitVec 32) := List.replicate 64 0
def s0 : List (BitVec 32) := List.replicate 8 0
@[go_sem] theorem w0_len : w0.length = 64 := by simp [w0]
@[go_sem] theorem s0_len : s0.length = 8 := by simp [s0]
theorem zero_w : (Try.prog.info? 82).map (·.zero) = some (some (.agg (uv w0))) := by kernel_rfl
theorem zero_s : (Try.prog.info? 60).map (·.zero) = some (some (.agg (uv s0))) := by kernel_rfl
section
variable (ρ : Operand → Value) (d : Option Tmp) (x y : Operand) (t : TypeId) (p : String) (a : Array Edge) (g : Option (Nat × Bool))
@[go_sem ↓] theorem ex_load_ws : execOp ρ ⟨d, .load 82 x, t, p, a, g⟩ = rowLoad 82 (ρ x) := rfl
@[go_sem ↓] theorem ex_store_ws : execOp ρ ⟨d, .store 82 x y, t, p, a, g⟩ = rowStore 82 (ρ x) (ρ y) := rfl
@[go_sem ↓] theorem ex_alloc_ws : execOp ρ ⟨d, .alloc 82, t, p, a, g⟩ = rowAlloc 82 := rfl
@[go_sem ↓] theorem ex_load_st : execOp ρ ⟨d, .load 60 x, t, p, a, g⟩ = rowLoad 60 (ρ x) := rfl
@[go_sem ↓] theorem ex_store_st : execOp ρ ⟨d, .store 60 x y, t, p, a, g⟩ = rowStore 60 (ρ x) (ρ y) := rfl
@[go_sem ↓] theorem ex_alloc_st : execOp ρ ⟨d, .alloc 60, t, p, a, g⟩ = rowAlloc 60 := rfl
end
section
variable (w : World) (g : Nat)
@[go_sem] theorem load_ws (h : (w.rowAt g).size = 64) : (rowLoad 82 (.pointer (some ⟨g, 0, none⟩))).run Try.prog w = .ok (.value (.agg (w.rowAt g))) w := run_rowLoad w (n := 63) rowType_w h
@[go_sem] theorem load_st (h : (w.rowAt g).size = 8) : (rowLoad 60 (.pointer (some ⟨g, 0, none⟩))).run Try.prog w = .ok (.value (.agg (w.rowAt g))) w := run_rowLoad w (n := 7) rowType_s h
@[go_sem] theorem store_ws (l : List (BitVec 32)) (hl : l.length = 64) (h : (w.rowAt g).size = 64) (hf : w.rowFree g = true) : (rowStore 82 (.pointer (some ⟨g, 0, none⟩)) (.agg (uv l))).run Try.prog w = .ok .skip (w.setRow g (uv l)) := run_rowStore w (n := 64) rowType_w hf h (by rw [uv_size]; exact hl) (uv_all l)
@[go_sem] theorem store_st (l : List (BitVec 32)) (hl : l.length = 8) (h : (w.rowAt g).size = 8) (hf : w.rowFree g = true) : (rowStore 60 (.pointer (some ⟨g, 0, none⟩)) (.agg (uv l))).run Try.prog w = .ok .skip (w.setRow g (uv l)) := run_rowStore w (n := 8) rowType_s hf h (by rw [uv_size]; exact hl) (uv_all l)
@[go_sem] theorem alloc_ws : (rowAlloc 82).run Try.prog w = .ok (.value (.pointer (some ⟨w.heap.size, 0, none⟩))) (w.alloc (.cells (uv w0) 82)) := run_rowAlloc w zero_w
@[go_sem] theorem alloc_st : (rowAlloc 60).run Try.prog w = .ok (.value (.pointer (some ⟨w.heap.size, 0, none⟩))) (w.alloc (.cells (uv s0) 60)) := run_rowAlloc w zero_s
end
theorem ws_result {fn : Func} {p : Tmp} {g : Nat} {w : World} {l : List (BitVec 32)} (hr : fn.results = #[.cell p 82]) (tmps : Array Value) (hp : tmps.getD p undef = .pointer (some ⟨g, 0, none⟩)) (h : w.rowAt g = uv l) (hl : l.length = 64) :
    (results fn tmps).run Try.prog w = .ok (.agg (uv l)) w := by
  have := run_result_row w (n := 63) hr tmps hp rowType_w (by rw [h, uv_size, hl])
  rwa [h] at this
/-! ### What is computed -/
/-- The numbers of the rounds. -/
def ks : List (BitVec 32) := [1116352408, 1899447441, 3049323471, 3921009573, 961987163, 1508970993, 2453635748, 2870763221, 3624381080, 310598401, 607225278, 1426881987, 1925078388, 2162078206, 2614888103, 3248222580, 3835390401, 4022224774, 264347078, 604807628, 770255983, 1249150122, 1555081692, 1996064986, 2554220882, 2821834349, 2952996808, 3210313671, 3336571891, 3584528711, 113926993, 338241895, 666307205, 773529912, 1294757372, 1396182291, 1695183700, 1986661051, 2177026350, 2456956037, 2730485921, 2820302411, 3259730800, 3345764771, 3516065817, 3600352804, 4094571909, 275423344, 430227734, 506948616, 659060556, 883997877, 958139571, 1322822218, 1537002063, 1747873779, 1955562222, 2024104815, 2227730452, 2361852424, 2428436474, 2756734187, 3204031479, 3329325298].map (BitVec.ofNat 32)
@[go_sem] theorem ks_len : ks.length = 64 := by decide
def be32 (a b c d : Nat) : BitVec 32 := BitVec.ofNat 32 (a * 16777216 + b * 65536 + c * 256 + d)
def schedN (w : List (BitVec 32)) (i : Nat) : BitVec 32 :=
  wordAt w (i - 16) + wordAt w (i - 7) + (rr 7 (wordAt w (i - 15)) ^^^ rr 18 (wordAt w (i - 15)) ^^^ wordAt w (i - 15) >>> 3) + (rr 17 (wordAt w (i - 2)) ^^^ rr 19 (wordAt w (i - 2)) ^^^ wordAt w (i - 2) >>> 10)
/-- The first 'i' words of 64 bytes. -/
def sched (b : List Nat) : Nat → List (BitVec 32)
  | 0 => []
  | i + 1 => sched b i ++ [if i < 16 then be32 (byteAt b (4 * i)) (byteAt b (4 * i + 1)) (byteAt b (4 * i + 2)) (byteAt b (4 * i + 3)) else schedN (sched b i) i]
theorem sched_len (b : List Nat) : ∀ i, (sched b i).length = i
  | 0 => rfl
  | i + 1 => by unfold sched; rw [List.length_append, sched_len b i]; rfl
def tx (v : List (BitVec 32)) (k w : BitVec 32) : BitVec 32 :=
  wordAt v 7 + (rr 6 (wordAt v 4) ^^^ rr 11 (wordAt v 4) ^^^ rr 25 (wordAt v 4)) + (wordAt v 4 &&& wordAt v 5 ^^^ ~~~ wordAt v 4 &&& wordAt v 6) + k + w
def ty (v : List (BitVec 32)) : BitVec 32 :=
  (rr 2 (wordAt v 0) ^^^ rr 13 (wordAt v 0) ^^^ rr 22 (wordAt v 0)) + (wordAt v 0 &&& wordAt v 1 ^^^ wordAt v 0 &&& wordAt v 2 ^^^ wordAt v 1 &&& wordAt v 2)
/-- One round. -/
def round1 (v : List (BitVec 32)) (k w : BitVec 32) : List (BitVec 32) :=
  [tx v k w + ty v, wordAt v 0, wordAt v 1, wordAt v 2, wordAt v 3 + tx v k w, wordAt v 4, wordAt v 5, wordAt v 6]
/-- The eight words behind 'i' rounds. -/
def rnds (s : List (BitVec 32)) (w : List (BitVec 32)) : Nat → List (BitVec 32)
  | 0 => s
  | i + 1 => round1 (rnds s w i) (wordAt ks i) (wordAt w i)
theorem rnds_len (s w : List (BitVec 32)) (h : s.length = 8) : ∀ i, (rnds s w i).length = 8
  | 0 => h
  | i + 1 => rfl
/-- What comes of eight words and 64 bytes. -/
def compress (s : List (BitVec 32)) (b : List Nat) : List (BitVec 32) := (List.range 8).map fun i => wordAt s i + wordAt (rnds s (sched b 64) 64) i
theorem compress_len (s : List (BitVec 32)) (b : List Nat) : (compress s b).length = 8 := by simp [compress]

def ksParts : Array (Nat × Operand) := #[(0, .const (.int .u32 1116352408)), (1, .const (.int .u32 1899447441)), (2, .const (.int .u32 3049323471)), (3, .const (.int .u32 3921009573)), (4, .const (.int .u32 961987163)), (5, .const (.int .u32 1508970993)), (6, .const (.int .u32 2453635748)), (7, .const (.int .u32 2870763221)), (8, .const (.int .u32 3624381080)), (9, .const (.int .u32 310598401)), (10, .const (.int .u32 607225278)), (11, .const (.int .u32 1426881987)), (12, .const (.int .u32 1925078388)), (13, .const (.int .u32 2162078206)), (14, .const (.int .u32 2614888103)), (15, .const (.int .u32 3248222580)), (16, .const (.int .u32 3835390401)), (17, .const (.int .u32 4022224774)), (18, .const (.int .u32 264347078)), (19, .const (.int .u32 604807628)), (20, .const (.int .u32 770255983)), (21, .const (.int .u32 1249150122)), (22, .const (.int .u32 1555081692)), (23, .const (.int .u32 1996064986)), (24, .const (.int .u32 2554220882)), (25, .const (.int .u32 2821834349)), (26, .const (.int .u32 2952996808)), (27, .const (.int .u32 3210313671)), (28, .const (.int .u32 3336571891)), (29, .const (.int .u32 3584528711)), (30, .const (.int .u32 113926993)), (31, .const (.int .u32 338241895)), (32, .const (.int .u32 666307205)), (33, .const (.int .u32 773529912)), (34, .const (.int .u32 1294757372)), (35, .const (.int .u32 1396182291)), (36, .const (.int .u32 1695183700)), (37, .const (.int .u32 1986661051)), (38, .const (.int .u32 2177026350)), (39, .const (.int .u32 2456956037)), (40, .const (.int .u32 2730485921)), (41, .const (.int .u32 2820302411)), (42, .const (.int .u32 3259730800)), (43, .const (.int .u32 3345764771)), (44, .const (.int .u32 3516065817)), (45, .const (.int .u32 3600352804)), (46, .const (.int .u32 4094571909)), (47, .const (.int .u32 275423344)), (48, .const (.int .u32 430227734)), (49, .const (.int .u32 506948616)), (50, .const (.int .u32 659060556)), (51, .const (.int .u32 883997877)), (52, .const (.int .u32 958139571)), (53, .const (.int .u32 1322822218)), (54, .const (.int .u32 1537002063)), (55, .const (.int .u32 1747873779)), (56, .const (.int .u32 1955562222)), (57, .const (.int .u32 2024104815)), (58, .const (.int .u32 2227730452)), (59, .const (.int .u32 2361852424)), (60, .const (.int .u32 2428436474)), (61, .const (.int .u32 2756734187)), (62, .const (.int .u32 3204031479)), (63, .const (.int .u32 3329325298))]
def ksBuild : Sem Next := do let x ← Instr.build 82 (ksParts.map fun (i, x) => (i, (Act.eval ⟨#[], []⟩ x))); pure (.value x)
@[go_sem] theorem run_ksBuild (w : World) : ksBuild.run Try.prog w = .ok (.value (.agg (uv ks))) w := by kernel_rfl
set_option maxRecDepth 100000 in
@[go_sem ↓] theorem ex_ksBuild (b : Act) (d : Option Tmp) (t : TypeId) (p : String) (a : Array Edge) (g : Option (Nat × Bool)) : execOp b.eval ⟨d, .build 82 #[(0, .const (.int .u32 1116352408)), (1, .const (.int .u32 1899447441)), (2, .const (.int .u32 3049323471)), (3, .const (.int .u32 3921009573)), (4, .const (.int .u32 961987163)), (5, .const (.int .u32 1508970993)), (6, .const (.int .u32 2453635748)), (7, .const (.int .u32 2870763221)), (8, .const (.int .u32 3624381080)), (9, .const (.int .u32 310598401)), (10, .const (.int .u32 607225278)), (11, .const (.int .u32 1426881987)), (12, .const (.int .u32 1925078388)), (13, .const (.int .u32 2162078206)), (14, .const (.int .u32 2614888103)), (15, .const (.int .u32 3248222580)), (16, .const (.int .u32 3835390401)), (17, .const (.int .u32 4022224774)), (18, .const (.int .u32 264347078)), (19, .const (.int .u32 604807628)), (20, .const (.int .u32 770255983)), (21, .const (.int .u32 1249150122)), (22, .const (.int .u32 1555081692)), (23, .const (.int .u32 1996064986)), (24, .const (.int .u32 2554220882)), (25, .const (.int .u32 2821834349)), (26, .const (.int .u32 2952996808)), (27, .const (.int .u32 3210313671)), (28, .const (.int .u32 3336571891)), (29, .const (.int .u32 3584528711)), (30, .const (.int .u32 113926993)), (31, .const (.int .u32 338241895)), (32, .const (.int .u32 666307205)), (33, .const (.int .u32 773529912)), (34, .const (.int .u32 1294757372)), (35, .const (.int .u32 1396182291)), (36, .const (.int .u32 1695183700)), (37, .const (.int .u32 1986661051)), (38, .const (.int .u32 2177026350)), (39, .const (.int .u32 2456956037)), (40, .const (.int .u32 2730485921)), (41, .const (.int .u32 2820302411)), (42, .const (.int .u32 3259730800)), (43, .const (.int .u32 3345764771)), (44, .const (.int .u32 3516065817)), (45, .const (.int .u32 3600352804)), (46, .const (.int .u32 4094571909)), (47, .const (.int .u32 275423344)), (48, .const (.int .u32 430227734)), (49, .const (.int .u32 506948616)), (50, .const (.int .u32 659060556)), (51, .const (.int .u32 883997877)), (52, .const (.int .u32 958139571)), (53, .const (.int .u32 1322822218)), (54, .const (.int .u32 1537002063)), (55, .const (.int .u32 1747873779)), (56, .const (.int .u32 1955562222)), (57, .const (.int .u32 2024104815)), (58, .const (.int .u32 2227730452)), (59, .const (.int .u32 2361852424)), (60, .const (.int .u32 2428436474)), (61, .const (.int .u32 2756734187)), (62, .const (.int .u32 3204031479)), (63, .const (.int .u32 3329325298))], t, p, a, g⟩ = ksBuild := by kernel_rfl
set_option maxRecDepth 100000 in
set_option maxHeartbeats 1600000 in
theorem numbers_w (w : World) : Calls Try.prog 62 #[] w fun e w' => e = .returned (.agg (uv ks)) ∧ Grew w w' := by
  go_enter Try.func62, Try.ntmps62
  go_wp2
  exact bodyPost_ret (v := .agg (uv ks)) (ws_result Try.results62 _ rfl (by simp [go_sem]) ks_len) rfl ⟨rfl, (by repeat (first | with_reducible exact Grew.refl _ | with_reducible apply Grew.alloc | with_reducible apply Grew.grow | with_reducible apply Grew.drew | with_reducible apply Grew.drewN))⟩
end Go.Proofs.Ytinkdkcmmjfhoaa
/- What lay ahead of the call lies ahead of all that comes. No program in sight. -/
namespace Go
set_option linter.unusedVariables false
set_option linter.unusedSimpArgs false
@[go_sem] theorem lt_world_1 (w : World) (s a0 : Nat) (h : s < w.heap.size) : s < w.heap.size + a0 := by omega
@[go_sem] theorem lt_world_2 (w : World) (s a0 a1 : Nat) (h : s < w.heap.size) : s < w.heap.size + a0 + a1 := by omega
@[go_sem] theorem lt_world_3 (w : World) (s a0 a1 a2 : Nat) (h : s < w.heap.size) : s < w.heap.size + a0 + a1 + a2 := by omega
@[go_sem] theorem lt_world_4 (w : World) (s a0 a1 a2 a3 : Nat) (h : s < w.heap.size) : s < w.heap.size + a0 + a1 + a2 + a3 := by omega
@[go_sem] theorem lt_world_5 (w : World) (s a0 a1 a2 a3 a4 : Nat) (h : s < w.heap.size) : s < w.heap.size + a0 + a1 + a2 + a3 + a4 := by omega
@[go_sem] theorem lt_world_6 (w : World) (s a0 a1 a2 a3 a4 a5 : Nat) (h : s < w.heap.size) : s < w.heap.size + a0 + a1 + a2 + a3 + a4 + a5 := by omega
@[go_sem] theorem lt_world_7 (w : World) (s a0 a1 a2 a3 a4 a5 a6 : Nat) (h : s < w.heap.size) : s < w.heap.size + a0 + a1 + a2 + a3 + a4 + a5 + a6 := by omega
@[go_sem] theorem lt_world_8 (w : World) (s a0 a1 a2 a3 a4 a5 a6 a7 : Nat) (h : s < w.heap.size) : s < w.heap.size + a0 + a1 + a2 + a3 + a4 + a5 + a6 + a7 := by omega
@[go_sem] theorem lt_world_9 (w : World) (s a0 a1 a2 a3 a4 a5 a6 a7 a8 : Nat) (h : s < w.heap.size) : s < w.heap.size + a0 + a1 + a2 + a3 + a4 + a5 + a6 + a7 + a8 := by omega
@[go_sem] theorem lt_world_10 (w : World) (s a0 a1 a2 a3 a4 a5 a6 a7 a8 a9 : Nat) (h : s < w.heap.size) : s < w.heap.size + a0 + a1 + a2 + a3 + a4 + a5 + a6 + a7 + a8 + a9 := by omega
@[go_sem] theorem lt_world_11 (w : World) (s a0 a1 a2 a3 a4 a5 a6 a7 a8 a9 a10 : Nat) (h : s < w.heap.size) : s < w.heap.size + a0 + a1 + a2 + a3 + a4 + a5 + a6 + a7 + a8 + a9 + a10 := by omega
@[go_sem] theorem lt_world_12 (w : World) (s a0 a1 a2 a3 a4 a5 a6 a7 a8 a9 a10 a11 : Nat) (h : s < w.heap.size) : s < w.heap.size + a0 + a1 + a2 + a3 + a4 + a5 + a6 + a7 + a8 + a9 + a10 + a11 := by omega
@[go_sem] theorem lt_world_13 (w : World) (s a0 a1 a2 a3 a4 a5 a6 a7 a8 a9 a10 a11 a12 : Nat) (h : s < w.heap.size) : s < w.heap.size + a0 + a1 + a2 + a3 + a4 + a5 + a6 + a7 + a8 + a9 + a10 + a11 + a12 := by omega
@[go_sem] theorem lt_world_14 (w : World) (s a0 a1 a2 a3 a4 a5 a6 a7 a8 a9 a10 a11 a12 a13 : Nat) (h : s < w.heap.size) : s < w.heap.size + a0 + a1 + a2 + a3 + a4 + a5 + a6 + a7 + a8 + a9 + a10 + a11 + a12 + a13 := by omega
@[go_sem] theorem lt_world_15 (w : World) (s a0 a1 a2 a3 a4 a5 a6 a7 a8 a9 a10 a11 a12 a13 a14 : Nat) (h : s < w.heap.size) : s < w.heap.size + a0 + a1 + a2 + a3 + a4 + a5 + a6 + a7 + a8 + a9 + a10 + a11 + a12 + a13 + a14 := by omega
@[go_sem] theorem lt_world_16 (w : World) (s a0 a1 a2 a3 a4 a5 a6 a7 a8 a9 a10 a11 a12 a13 a14 a15 : Nat) (h : s < w.heap.size) : s < w.heap.size + a0 + a1 + a2 + a3 + a4 + a5 + a6 + a7 + a8 + a9 + a10 + a11 + a12 + a13 + a14 + a15 := by omega
@[go_sem] theorem lt_world_17 (w : World) (s a0 a1 a2 a3 a4 a5 a6 a7 a8 a9 a10 a11 a12 a13 a14 a15 a16 : Nat) (h : s < w.heap.size) : s < w.heap.size + a0 + a1 + a2 + a3 + a4 + a5 + a6 + a7 + a8 + a9 + a10 + a11 + a12 + a13 + a14 + a15 + a16 := by omega
@[go_sem] theorem lt_world_18 (w : World) (s a0 a1 a2 a3 a4 a5 a6 a7 a8 a9 a10 a11 a12 a13 a14 a15 a16 a17 : Nat) (h : s < w.heap.size) : s < w.heap.size + a0 + a1 + a2 + a3 + a4 + a5 + a6 + a7 + a8 + a9 + a10 + a11 + a12 + a13 + a14 + a15 + a16 + a17 := by omega
@[go_sem] theorem lt_world_19 (w : World) (s a0 a1 a2 a3 a4 a5 a6 a7 a8 a9 a10 a11 a12 a13 a14 a15 a16 a17 a18 : Nat) (h : s < w.heap.size) : s < w.heap.size + a0 + a1 + a2 + a3 + a4 + a5 + a6 + a7 + a8 + a9 + a10 + a11 + a12 + a13 + a14 + a15 + a16 + a17 + a18 := by omega
@[go_sem] theorem lt_world_20 (w : World) (s a0 a1 a2 a3 a4 a5 a6 a7 a8 a9 a10 a11 a12 a13 a14 a15 a16 a17 a18 a19 : Nat) (h : s < w.heap.size) : s < w.heap.size + a0 + a1 + a2 + a3 + a4 + a5 + a6 + a7 + a8 + a9 + a10 + a11 + a12 + a13 + a14 + a15 + a16 + a17 + a18 + a19 := by omega
@[go_sem] theorem lt_world_21 (w : World) (s a0 a1 a2 a3 a4 a5 a6 a7 a8 a9 a10 a11 a12 a13 a14 a15 a16 a17 a18 a19 a20 : Nat) (h : s < w.heap.size) : s < w.heap.size + a0 + a1 + a2 + a3 + a4 + a5 + a6 + a7 + a8 + a9 + a10 + a11 + a12 + a13 + a14 + a15 + a16 + a17 + a18 + a19 + a20 := by omega
@[go_sem] theorem lt_world_22 (w : World) (s a0 a1 a2 a3 a4 a5 a6 a7 a8 a9 a10 a11 a12 a13 a14 a15 a16 a17 a18 a19 a20 a21 : Nat) (h : s < w.heap.size) : s < w.heap.size + a0 + a1 + a2 + a3 + a4 + a5 + a6 + a7 + a8 + a9 + a10 + a11 + a12 + a13 + a14 + a15 + a16 + a17 + a18 + a19 + a20 + a21 := by omega
@[go_sem] theorem lt_world_23 (w : World) (s a0 a1 a2 a3 a4 a5 a6 a7 a8 a9 a10 a11 a12 a13 a14 a15 a16 a17 a18 a19 a20 a21 a22 : Nat) (h : s < w.heap.size) : s < w.heap.size + a0 + a1 + a2 + a3 + a4 + a5 + a6 + a7 + a8 + a9 + a10 + a11 + a12 + a13 + a14 + a15 + a16 + a17 + a18 + a19 + a20 + a21 + a22 := by omega
@[go_sem] theorem lt_world_24 (w : World) (s a0 a1 a2 a3 a4 a5 a6 a7 a8 a9 a10 a11 a12 a13 a14 a15 a16 a17 a18 a19 a20 a21 a22 a23 : Nat) (h : s < w.heap.size) : s < w.heap.size + a0 + a1 + a2 + a3 + a4 + a5 + a6 + a7 + a8 + a9 + a10 + a11 + a12 + a13 + a14 + a15 + a16 + a17 + a18 + a19 + a20 + a21 + a22 + a23 := by omega
@[go_sem] theorem lt_world_25 (w : World) (s a0 a1 a2 a3 a4 a5 a6 a7 a8 a9 a10 a11 a12 a13 a14 a15 a16 a17 a18 a19 a20 a21 a22 a23 a24 : Nat) (h : s < w.heap.size) : s < w.heap.size + a0 + a1 + a2 + a3 + a4 + a5 + a6 + a7 + a8 + a9 + a10 + a11 + a12 + a13 + a14 + a15 + a16 + a17 + a18 + a19 + a20 + a21 + a22 + a23 + a24 := by omega
@[go_sem] theorem lt_world_26 (w : World) (s a0 a1 a2 a3 a4 a5 a6 a7 a8 a9 a10 a11 a12 a13 a14 a15 a16 a17 a18 a19 a20 a21 a22 a23 a24 a25 : Nat) (h : s < w.heap.size) : s < w.heap.size + a0 + a1 + a2 + a3 + a4 + a5 + a6 + a7 + a8 + a9 + a10 + a11 + a12 + a13 + a14 + a15 + a16 + a17 + a18 + a19 + a20 + a21 + a22 + a23 + a24 + a25 := by omega
@[go_sem] theorem lt_world_27 (w : World) (s a0 a1 a2 a3 a4 a5 a6 a7 a8 a9 a10 a11 a12 a13 a14 a15 a16 a17 a18 a19 a20 a21 a22 a23 a24 a25 a26 : Nat) (h : s < w.heap.size) : s < w.heap.size + a0 + a1 + a2 + a3 + a4 + a5 + a6 + a7 + a8 + a9 + a10 + a11 + a12 + a13 + a14 + a15 + a16 + a17 + a18 + a19 + a20 + a21 + a22 + a23 + a24 + a25 + a26 := by omega
@[go_sem] theorem lt_world_28 (w : World) (s a0 a1 a2 a3 a4 a5 a6 a7 a8 a9 a10 a11 a12 a13 a14 a15 a16 a17 a18 a19 a20 a21 a22 a23 a24 a25 a26 a27 : Nat) (h : s < w.heap.size) : s < w.heap.size + a0 + a1 + a2 + a3 + a4 + a5 + a6 + a7 + a8 + a9 + a10 + a11 + a12 + a13 + a14 + a15 + a16 + a17 + a18 + a19 + a20 + a21 + a22 + a23 + a24 + a25 + a26 + a27 := by omega
@[go_sem] theorem lt_world_29 (w : World) (s a0 a1 a2 a3 a4 a5 a6 a7 a8 a9 a10 a11 a12 a13 a14 a15 a16 a17 a18 a19 a20 a21 a22 a23 a24 a25 a26 a27 a28 : Nat) (h : s < w.heap.size) : s < w.heap.size + a0 + a1 + a2 + a3 + a4 + a5 + a6 + a7 + a8 + a9 + a10 + a11 + a12 + a13 + a14 + a15 + a16 + a17 + a18 + a19 + a20 + a21 + a22 + a23 + a24 + a25 + a26 + a27 + a28 := by omega
@[go_sem] theorem lt_world_30 (w : World) (s a0 a1 a2 a3 a4 a5 a6 a7 a8 a9 a10 a11 a12 a13 a14 a15 a16 a17 a18 a19 a20 a21 a22 a23 a24 a25 a26 a27 a28 a29 : Nat) (h : s < w.heap.size) : s < w.heap.size + a0 + a1 + a2 + a3 + a4 + a5 + a6 + a7 + a8 + a9 + a10 + a11 + a12 + a13 + a14 + a15 + a16 + a17 + a18 + a19 + a20 + a21 + a22 + a23 + a24 + a25 + a26 + a27 + a28 + a29 := by omega
@[go_sem] theorem lt_world_31 (w : World) (s a0 a1 a2 a3 a4 a5 a6 a7 a8 a9 a10 a11 a12 a13 a14 a15 a16 a17 a18 a19 a20 a21 a22 a23 a24 a25 a26 a27 a28 a29 a30 : Nat) (h : s < w.heap.size) : s < w.heap.size + a0 + a1 + a2 + a3 + a4 + a5 + a6 + a7 + a8 + a9 + a10 + a11 + a12 + a13 + a14 + a15 + a16 + a17 + a18 + a19 + a20 + a21 + a22 + a23 + a24 + a25 + a26 + a27 + a28 + a29 + a30 := by omega
@[go_sem] theorem lt_world_32 (w : World) (s a0 a1 a2 a3 a4 a5 a6 a7 a8 a9 a10 a11 a12 a13 a14 a15 a16 a17 a18 a19 a20 a21 a22 a23 a24 a25 a26 a27 a28 a29 a30 a31 : Nat) (h : s < w.heap.size) : s < w.heap.size + a0 + a1 + a2 + a3 + a4 + a5 + a6 + a7 + a8 + a9 + a10 + a11 + a12 + a13 + a14 + a15 + a16 + a17 + a18 + a19 + a20 + a21 + a22 + a23 + a24 + a25 + a26 + a27 + a28 + a29 + a30 + a31 := by omega
theorem places_of (w : World) (s : Nat) (h : s < w.heap.size) : (∀ a0 : Nat, s < w.heap.size + a0) ∧ (∀ a0 a1 : Nat, s < w.heap.size + a0 + a1) ∧ (∀ a0 a1 a2 : Nat, s < w.heap.size + a0 + a1 + a2) ∧ (∀ a0 a1 a2 a3 : Nat, s < w.heap.size + a0 + a1 + a2 + a3) ∧ (∀ a0 a1 a2 a3 a4 : Nat, s < w.heap.size + a0 + a1 + a2 + a3 + a4) ∧ (∀ a0 a1 a2 a3 a4 a5 : Nat, s < w.heap.size + a0 + a1 + a2 + a3 + a4 + a5) ∧ (∀ a0 a1 a2 a3 a4 a5 a6 : Nat, s < w.heap.size + a0 + a1 + a2 + a3 + a4 + a5 + a6) ∧ (∀ a0 a1 a2 a3 a4 a5 a6 a7 : Nat, s < w.heap.size + a0 + a1 + a2 + a3 + a4 + a5 + a6 + a7) ∧ (∀ a0 a1 a2 a3 a4 a5 a6 a7 a8 : Nat, s < w.heap.size + a0 + a1 + a2 + a3 + a4 + a5 + a6 + a7 + a8) ∧ (∀ a0 a1 a2 a3 a4 a5 a6 a7 a8 a9 : Nat, s < w.heap.size + a0 + a1 + a2 + a3 + a4 + a5 + a6 + a7 + a8 + a9) ∧ (∀ a0 a1 a2 a3 a4 a5 a6 a7 a8 a9 a10 : Nat, s < w.heap.size + a0 + a1 + a2 + a3 + a4 + a5 + a6 + a7 + a8 + a9 + a10) ∧ (∀ a0 a1 a2 a3 a4 a5 a6 a7 a8 a9 a10 a11 : Nat, s < w.heap.size + a0 + a1 + a2 + a3 + a4 + a5 + a6 + a7 + a8 + a9 + a10 + a11) ∧ (∀ a0 a1 a2 a3 a4 a5 a6 a7 a8 a9 a10 a11 a12 : Nat, s < w.heap.size + a0 + a1 + a2 + a3 + a4 + a5 + a6 + a7 + a8 + a9 + a10 + a11 + a12) ∧ (∀ a0 a1 a2 a3 a4 a5 a6 a7 a8 a9 a10 a11 a12 a13 : Nat, s < w.heap.size + a0 + a1 + a2 + a3 + a4 + a5 + a6 + a7 + a8 + a9 + a10 + a11 + a12 + a13) :=
  ⟨fun _ => by omega, fun _ _ => by omega, fun _ _ _ => by omega, fun _ _ _ _ => by omega, fun _ _ _ _ _ => by omega, fun _ _ _ _ _ _ => by omega, fun _ _ _ _ _ _ _ => by omega, fun _ _ _ _ _ _ _ _ => by omega, fun _ _ _ _ _ _ _ _ _ => by omega, fun _ _ _ _ _ _ _ _ _ _ => by omega, fun _ _ _ _ _ _ _ _ _ _ _ => by omega, fun _ _ _ _ _ _ _ _ _ _ _ _ => by omega, fun _ _ _ _ _ _ _ _ _ _ _ _ _ => by omega, fun _ _ _ _ _ _ _ _ _ _ _ _ _ _ => by omega⟩
end Go
/- For sha's add: what its loops compute. -/
namespace Go
set_option linter.unusedVariables false
set_option linter.unusedSimpArgs false
section
variable (w : World) (g : Nat) (cs : Array Value)
theorem heap_setRow_free (h : w.rowFree g = true) : ∃ t, (w.setRow g cs).heap[g]? = some (.cells cs t (0, 0)) := by
  obtain ⟨t, ht⟩ := row_of_free w h
  exact ⟨t, setRow_heap w g _ cs t _ ht⟩
@[go_sem] theorem cell_setRow_free (h : w.rowFree g = true) (i : Nat) : (w.setRow g cs).cell? ⟨g, i, none⟩ = cs[i]? := by
  obtain ⟨t, ht⟩ := heap_setRow_free w g cs h
  simp [World.cell?, ht]
@[go_sem] theorem frozen_setRow_free (h : w.rowFree g = true) (i : Nat) : (w.setRow g cs).frozen? ⟨g, i, none⟩ = false := by
  obtain ⟨t, ht⟩ := heap_setRow_free w g cs h
  simp [World.frozen?, ht]
@[go_sem] theorem setCell_setRow_free (h : w.rowFree g = true) (i : Nat) (v : Value) : (w.setRow g cs).setCell ⟨g, i, none⟩ v = w.setRow g (cs.setIfInBounds i v) := by
  obtain ⟨t, ht⟩ := heap_setRow_free w g cs h
  rw [setCell_eq_setRow _ g i cs t _ v ht, setRow_setRow]
@[go_sem] theorem rowAt_setRow_free (h : w.rowFree g = true) : (w.setRow g cs).rowAt g = cs := by
  obtain ⟨t, ht⟩ := heap_setRow_free w g cs h
  simp [World.rowAt, ht]
@[go_sem] theorem rowFree_setRow_free (h : w.rowFree g = true) : (w.setRow g cs).rowFree g = true := by
  obtain ⟨t, ht⟩ := heap_setRow_free w g cs h
  simp [World.rowFree, ht]
theorem setRow_same' (h : w.rowFree g = true) : w.setRow g (w.rowAt g) = w := by
  obtain ⟨t, ht⟩ := row_of_free w h
  have hlt : g < w.heap.size := (Array.getElem?_eq_some_iff.1 ht).1
  have hv : w.heap[g] = .cells (w.rowAt g) t (0, 0) := (Array.getElem?_eq_some_iff.1 ht).2
  unfold World.setRow
  cases w with
  | mk heap tape drawn os output =>
    congr 1
    apply Array.ext
    · simp
    · intro k h1 h2
      simp only [Array.getElem_modify]
      split
      · rename_i hk; subst hk; simp only at hv; rw [hv]
      · rfl
end
end Go
namespace Go.Proofs.Ytinkdkcmmjfhoaa
open Go.RowKit

@[go_sem] theorem u_div8 (x : BitVec 32) : u x / (8 : Int) = u (x >>> 3) := u_div x 3
@[go_sem] theorem u_div1024 (x : BitVec 32) : u x / (1024 : Int) = u (x >>> 10) := u_div x 10
def rotI (n : Int) : Bool := decide (n = 2 ∨ n = 6 ∨ n = 7 ∨ n = 11 ∨ n = 13 ∨ n = 17 ∨ n = 18 ∨ n = 19 ∨ n = 22 ∨ n = 25)
theorem right_i (x : BitVec 32) (n : Int) (hn : rotI n = true) (w : World) :
    Calls Try.prog 61 #[.int .u32 (u x), .int .i64 n] w fun e w' => e = .returned (.int .u32 (u (rr n.toNat x))) ∧ Grew w w' := by
  unfold rotI at hn
  have hn := of_decide_eq_true hn
  obtain ⟨m, rfl⟩ := Int.eq_ofNat_of_zero_le (show 0 ≤ n by omega)
  exact right_w x m (by unfold rotOk; omega) w

/-- Words, filled up with zeros to 64. -/
def pad64 (l : List (BitVec 32)) : List (BitVec 32) := l ++ List.replicate (64 - l.length) 0
theorem pad64_len (l : List (BitVec 32)) (h : l.length ≤ 64) : (pad64 l).length = 64 := by simp [pad64]; omega
theorem pad64_nil : pad64 [] = w0 := rfl
theorem pad64_set (l : List (BitVec 32)) (x : BitVec 32) (h : l.length < 64) : (pad64 l).set l.length x = pad64 (l ++ [x]) := by
  unfold pad64
  rw [List.set_append_right _ _ (Nat.le_refl _), Nat.sub_self]
  obtain ⟨m, hm⟩ : ∃ m, 64 - l.length = m + 1 := ⟨63 - l.length, by omega⟩
  rw [hm, List.replicate_succ, List.set_cons_zero, List.length_append, List.length_singleton, show 64 - (l.length + 1) = m by omega, List.append_assoc]
  rfl
theorem pad64_at (l : List (BitVec 32)) (i : Nat) (h : i < l.length) : wordAt (pad64 l) i = wordAt l i := by
  unfold wordAt pad64
  simp [List.getD, List.getElem?_append, h]
theorem pad64_full (l : List (BitVec 32)) (h : l.length = 64) : pad64 l = l := by unfold pad64; rw [h]; simp
theorem sched_low (b : List Nat) (k : Nat) (h : k < 16) : (pad64 (sched b k)).set k (be32 (byteAt b (4 * k)) (byteAt b (4 * k + 1)) (byteAt b (4 * k + 2)) (byteAt b (4 * k + 3))) = pad64 (sched b (k + 1)) := by
  have := pad64_set (sched b k) (be32 (byteAt b (4 * k)) (byteAt b (4 * k + 1)) (byteAt b (4 * k + 2)) (byteAt b (4 * k + 3))) (by rw [sched_len]; omega)
  rw [sched_len] at this
  rw [this]
  conv => rhs; unfold sched
  rw [if_pos h]
theorem sched_high (b : List Nat) (k : Nat) (h : ¬ k < 16) (h2 : k < 64) : (pad64 (sched b k)).set k (wordAt (pad64 (sched b k)) (k - 16) + wordAt (pad64 (sched b k)) (k - 7) + (rr 7 (wordAt (pad64 (sched b k)) (k - 15)) ^^^ rr 18 (wordAt (pad64 (sched b k)) (k - 15)) ^^^ wordAt (pad64 (sched b k)) (k - 15) >>> 3) + (rr 17 (wordAt (pad64 (sched b k)) (k - 2)) ^^^ rr 19 (wordAt (pad64 (sched b k)) (k - 2)) ^^^ wordAt (pad64 (sched b k)) (k - 2) >>> 10)) = pad64 (sched b (k + 1)) := by
  have hl := sched_len b k
  rw [pad64_at _ (k - 16) (by omega), pad64_at _ (k - 7) (by omega), pad64_at _ (k - 15) (by omega), pad64_at _ (k - 2) (by omega)]
  have := pad64_set (sched b k) (schedN (sched b k) k) (by rw [sched_len]; omega)
  rw [sched_len] at this
  conv => rhs; unfold sched
  rw [if_neg h]
  exact this
/-- The eight words, of which 'k' have been added up. -/
def mixk (s v : List (BitVec 32)) (k : Nat) : List (BitVec 32) := (List.range 8).map fun i => if i < k then wordAt s i + wordAt v i else wordAt s i
theorem mixk_len (s v : List (BitVec 32)) (k : Nat) : (mixk s v k).length = 8 := by simp [mixk]
theorem mixk_0 (s v : List (BitVec 32)) (h : s.length = 8) : mixk s v 0 = s := by
  apply List.ext_getElem
  · simp [mixk, h]
  · intro i h1 h2
    simp [mixk, wordAt_eq s i h2]
theorem mixk_at (s v : List (BitVec 32)) (k : Nat) (h : k < 8) : wordAt (mixk s v k) k = wordAt s k := by
  rw [wordAt_eq _ k (by rw [mixk_len]; exact h)]
  simp [mixk]
theorem mixk_set (s v : List (BitVec 32)) (k : Nat) (h : k < 8) : (mixk s v k).set k (wordAt (mixk s v k) k + wordAt v k) = mixk s v (k + 1) := by
  rw [mixk_at s v k h]
  apply List.ext_getElem
  · simp [mixk]
  · intro i h1 h2
    simp only [List.getElem_set, mixk, List.getElem_map, List.getElem_range]
    by_cases hi : k = i
    · subst hi; rw [if_pos rfl, if_pos (by omega)]
    · rw [if_neg hi]
      by_cases h3 : i < k
      · rw [if_pos h3, if_pos (by omega)]
      · rw [if_neg h3, if_neg (by omega)]
theorem mixk_8 (s : List (BitVec 32)) (l : List Nat) : mixk s (rnds s (sched l 64) 64) 8 = compress s l := by
  unfold mixk compress
  apply List.map_congr_left
  intro i hi
  rw [if_pos (by simpa using hi)]
def or2 (a b : Nat) : Nat := a * 16777216 + b * 65536
def or3 (a b c : Nat) : Nat := a * 16777216 + b * 65536 + c * 256
theorem or_u32_nat (a b : Nat) (ha : a < 4294967296) (hb : b < 4294967296) : bits .or .u32 (a : Int) (b : Int) = ((a ||| b : Nat) : Int) := by
  have h1 : (BitVec.ofInt 32 (a : Int)).toNat = a := by rw [BitVec.ofInt_natCast, BitVec.toNat_ofNat]; exact Nat.mod_eq_of_lt (by omega)
  have h2 : (BitVec.ofInt 32 (b : Int)).toNat = b := by rw [BitVec.ofInt_natCast, BitVec.toNat_ofNat]; exact Nat.mod_eq_of_lt (by omega)
  show IntKind.u32.wrap ((BitVec.ofInt 32 (a : Int) ||| BitVec.ofInt 32 (b : Int)).toNat : Int) = _
  rw [BitVec.toNat_or, h1, h2]
  have : a ||| b < 2 ^ 32 := Nat.or_lt_two_pow (by omega) (by omega)
  show ((a ||| b : Nat) : Int) % 4294967296 = _
  omega
theorem or_add (a b k : Nat) (hb : b < 2 ^ k) : a * 2 ^ k ||| b = a * 2 ^ k + b := by
  rw [← Nat.shiftLeft_eq, Nat.shiftLeft_add_eq_or_of_lt hb]
theorem be_or2 (a b : Nat) (ha : a < 256) (hb : b < 256) : bits .or .u32 ((a : Int) * 16777216) ((b : Int) * 65536) = ((or2 a b : Nat) : Int) := by
  have := or_u32_nat (a * 16777216) (b * 65536) (by omega) (by omega)
  rw [Int.natCast_mul, Int.natCast_mul] at this
  refine this.trans (congrArg _ ?_)
  exact or_add a (b * 65536) 24 (by omega)
theorem be_or3 (a b c : Nat) (ha : a < 256) (hb : b < 256) (hc : c < 256) : bits .or .u32 ((or2 a b : Nat) : Int) ((c : Int) * 256) = ((or3 a b c : Nat) : Int) := by
  have := or_u32_nat (or2 a b) (c * 256) (by unfold or2; omega) (by omega)
  rw [Int.natCast_mul] at this
  refine this.trans (congrArg _ ?_)
  have e : or2 a b = (a * 256 + b) * 2 ^ 16 := by unfold or2; omega
  rw [e, or_add _ _ 16 (by omega)]
  unfold or3; omega
theorem be_or4 (a b c d : Nat) (ha : a < 256) (hb : b < 256) (hc : c < 256) (hd : d < 256) : bits .or .u32 ((or3 a b c : Nat) : Int) (d : Int) = u (be32 a b c d) := by
  rw [or_u32_nat (or3 a b c) d (by unfold or3; omega) (by omega)]
  have e : or3 a b c = (a * 65536 + b * 256 + c) * 2 ^ 8 := by unfold or3; omega
  rw [e, or_add _ _ 8 (by omega)]
  unfold u be32
  rw [BitVec.toNat_ofNat]
  omega

end Go.Proofs.Ytinkdkcmmjfhoaa
/- Variables that are two ids: their loads and stores, whole and by halves. -/
namespace Go.Proofs.Ytinkdkcmmjfhoaa
set_option linter.unusedVariables false
set_option linter.unusedSimpArgs false
open Go.RowKit
def putAt (C : Array Value) : Nat → List Value → Array Value
  | _, [] => C
  | o, v :: r => putAt (C.setIfInBounds o v) (o + 1) r
theorem putAt_list : ∀ (vs : List Value) (o : Nat) (C : Array Value), o + vs.length ≤ C.size → (putAt C o vs).toList = C.toList.take o ++ vs ++ C.toList.drop (o + vs.length)
  | [], o, C, _ => by simp [putAt]
  | v :: r, o, C, h => by
    simp only [List.length_cons] at h
    have hlt : o < C.toList.length := by simp; omega
    rw [putAt, putAt_list r (o + 1) _ (by simp; omega), Array.toList_setIfInBounds, List.take_set, List.drop_set_of_lt (by omega), List.take_add_one, List.getElem?_eq_getElem hlt]
    rw [List.set_append_right _ _ (by simp; omega)]
    simp only [List.length_cons, Option.toList_some, List.length_take]
    rw [show o - min o C.toList.length = 0 by omega]
    simp [show o + 1 + r.length = o + (r.length + 1) by omega]
theorem setCells_row : ∀ (vs : List Value) (w : World) (g o : Nat), w.rowFree g = true → w.setCells g o vs = w.setRow g (putAt (w.rowAt g) o vs)
  | [], w, g, o, h => (setRow_same' _ _ h).symm
  | v :: r, w, g, o, h => by
    have e1 : w.setCell ⟨g, o, none⟩ v = w.setRow g ((w.rowAt g).setIfInBounds o v) := by
      have h2 := setCell_setRow_free w g (w.rowAt g) h o v
      rw [setRow_same' _ _ h] at h2
      exact h2
    have hfr : (w.setRow g ((w.rowAt g).setIfInBounds o v)).rowFree g = true := rowFree_setRow_free _ _ _ h
    rw [World.setCells, e1, setCells_row r _ g (o + 1) hfr, rowAt_setRow_free _ _ _ h, putAt, setRow_setRow]
theorem there_row {w : World} {g o n : Nat} (hf : w.rowFree g = true) (h : o + n ≤ (w.rowAt g).size) : w.there g o n := fun j hj => by
  obtain ⟨t, hg⟩ := row_of_free w hf
  refine ⟨?_, ?_⟩
  · rw [cell_rowAt, Array.getElem?_eq_getElem (by omega)]; rfl
  · have := frozen_setRow_free w g (w.rowAt g) hf (o + j)
    rwa [setRow_same' _ _ hf] at this
def lo32 (C : Array Value) : Array Value := (C.toList.take 32).toArray
def hi32 (C : Array Value) : Array Value := (C.toList.drop 32).toArray
def putLo (C D : Array Value) : Array Value := putAt C 0 D.toList
def putHi (C D : Array Value) : Array Value := putAt C 32 D.toList
theorem iv_bys (l : List Nat) : (iv l).toList = bys l := rfl
theorem arr_ext {a b : Array Value} (h : a.toList = b.toList) : a = b := by cases a; cases b; simpa using h
@[go_sem] theorem pair_size (a b : List Nat) (ha : a.length = 32) (hb : b.length = 32) : (iv (pair a b)).size = 64 := by rw [iv_size]; simp [pair, ha, hb]
@[go_sem] theorem pair_length (a b : List Nat) (ha : a.length = 32) (hb : b.length = 32) : (pair a b).length = 64 := by simp [pair, ha, hb]
@[go_sem] theorem lo32_pair (a b : List Nat) (ha : a.length = 32) : lo32 (iv (pair a b)) = iv a := by
  unfold lo32
  rw [iv_bys, pair, bys_append, List.take_left' (by rw [bys_len, ha])]
  rfl
@[go_sem] theorem hi32_pair (a b : List Nat) (ha : a.length = 32) : hi32 (iv (pair a b)) = iv b := by
  unfold hi32
  rw [iv_bys, pair, bys_append, List.drop_left' (by rw [bys_len, ha])]
  rfl
@[go_sem] theorem putLo_pair (a b x : List Nat) (ha : a.length = 32) (hb : b.length = 32) (hx : x.length = 32) : putLo (iv (pair a b)) (iv x) = iv (pair x b) := by
  refine arr_ext ?_
  unfold putLo
  rw [putAt_list _ _ _ (by rw [pair_size a b ha hb, iv_bys, bys_len, hx]; omega), iv_bys, iv_bys, iv_bys, bys_len, hx, pair, pair, bys_append, bys_append, Nat.zero_add, List.drop_left' (by rw [bys_len, ha])]
  simp
@[go_sem] theorem putHi_pair (a b x : List Nat) (ha : a.length = 32) (hb : b.length = 32) (hx : x.length = 32) : putHi (iv (pair a b)) (iv x) = iv (pair a x) := by
  refine arr_ext ?_
  unfold putHi
  rw [putAt_list _ _ _ (by rw [pair_size a b ha hb, iv_bys, bys_len, hx]; omega), iv_bys, iv_bys, iv_bys, bys_len, hx, pair, pair, bys_append, bys_append, List.take_left' (by rw [bys_len, ha]), List.drop_of_length_le (by simp [ha, hb, bys_len])]
  simp
theorem rowType_pair : Try.prog.rowType 54 64 = true := by kernel_rfl
theorem zero_pair2 : (Try.prog.info? 54).map (·.zero) = some (some (.agg (iv (pair id0 id0)))) := by kernel_rfl
section
variable (ρ : Operand → Value) (d : Option Tmp) (x y : Operand) (t : TypeId) (p : String) (a : Array Edge) (g : Option (Nat × Bool)) (w : World)
@[go_sem ↓] theorem ex_load_pair : execOp ρ ⟨d, .load 54 x, t, p, a, g⟩ = rowLoad 54 (ρ x) := rfl
@[go_sem ↓] theorem ex_alloc_pair : execOp ρ ⟨d, .alloc 54, t, p, a, g⟩ = rowAlloc 54 := rfl
end
@[go_sem] theorem load_pair (w : World) (g : Nat) (h : (w.rowAt g).size = 64) : (rowLoad 54 (.pointer (some ⟨g, 0, none⟩))).run Try.prog w = .ok (.value (.agg (w.rowAt g))) w := run_rowLoad w (n := 63) rowType_pair h
@[go_sem] theorem alloc_pair (w : World) : (rowAlloc 54).run Try.prog w = .ok (.value (.pointer (some ⟨w.heap.size, 0, none⟩))) (w.alloc (.cells (iv (pair id0 id0)) 54)) := run_rowAlloc w zero_pair2
theorem load_part {w : World} {g o : Nat} {cs : List Value} (hl : cs.length = 32) (h : w.rangeAt g o cs) : (rowLoad 24 (.pointer (some ⟨g, o, none⟩))).run Try.prog w = .ok (.value (.agg cs.toArray)) w := by
  unfold rowLoad
  rw [Sem.run_bind, run_loadAt_mid w g o 24 cs _ h under_id rfl (by rw [hl]; exact size_id)]
  rfl
@[go_sem] theorem load_lo (w : World) (g : Nat) (h : (w.rowAt g).size = 64) : (rowLoad 24 (.pointer (some ⟨g, 0, none⟩))).run Try.prog w = .ok (.value (.agg (lo32 (w.rowAt g)))) w := by
  refine load_part (by simp [h]) fun j v hj => ?_
  have hj2 := (List.getElem?_eq_some_iff.1 hj).1
  rw [List.getElem?_take, if_pos (by simp at hj2; omega)] at hj
  rw [cell_rowAt, Nat.zero_add]
  simpa using hj
@[go_sem] theorem load_hi (w : World) (g : Nat) (h : (w.rowAt g).size = 64) : (rowLoad 24 (.pointer (some ⟨g, 32, none⟩))).run Try.prog w = .ok (.value (.agg (hi32 (w.rowAt g)))) w := by
  refine load_part (by simp [h]) fun j v hj => ?_
  rw [List.getElem?_drop] at hj
  rw [cell_rowAt]
  simpa using hj
theorem store_part {w : World} {g o : Nat} {l : List Nat} (hl : l.length = 32) (hf : w.rowFree g = true) (h : o + 32 ≤ (w.rowAt g).size) : (rowStore 24 (.pointer (some ⟨g, o, none⟩)) (.agg (iv l))).run Try.prog w = .ok .skip (w.setRow g (putAt (w.rowAt g) o (iv l).toList)) := by
  have hs : (iv l).size = 32 := by rw [iv_size, hl]
  unfold rowStore
  rw [Sem.run_bind, run_storeAt_mid w g o 24 (iv l) (there_row hf (by rw [hs]; exact h)) (by rw [hs]; exact size_id) (iv_all l), setCells_row _ _ _ _ hf]
  rfl
@[go_sem] theorem store_lo (w : World) (g : Nat) (l : List Nat) (hl : l.length = 32) (h : (w.rowAt g).size = 64) (hf : w.rowFree g = true) : (rowStore 24 (.pointer (some ⟨g, 0, none⟩)) (.agg (iv l))).run Try.prog w = .ok .skip (w.setRow g (putLo (w.rowAt g) (iv l))) := store_part hl hf (by omega)
@[go_sem] theorem store_hi (w : World) (g : Nat) (l : List Nat) (hl : l.length = 32) (h : (w.rowAt g).size = 64) (hf : w.rowFree g = true) : (rowStore 24 (.pointer (some ⟨g, 32, none⟩)) (.agg (iv l))).run Try.prog w = .ok .skip (w.setRow g (putHi (w.rowAt g) (iv l))) := store_part hl hf (by omega)
theorem run_buildSlice1 {tt e : TypeId} {i : TypeInfo} {S : Nat} {C Z : Array Value} (ht : Try.prog.underlying tt = some (.slice e)) (hi : Try.prog.info? e = some i) (hz : i.zero = some (.agg Z)) (hs : i.size = S) (hZ : Z.size = S) (hC : C.size = S) (h0 : 0 < S) (hS : S ≤ 1000) (w : World) :
    (Instr.buildSlice tt 1 #[(0, .agg C)]).run Try.prog w = .ok (.slice (some ⟨w.heap.size, 0, none⟩) 1 1) (w.alloc (.cells C e)) := by
  have hsz : (sizeOf e).run Try.prog w = .ok S w := by simp [sizeOf, typeInfo, hi, hs]
  have hzv : (zeroValue e).run Try.prog w = .ok (.agg Z) w := by simp [zeroValue, typeInfo, hi, hz]
  have h24 : ¬ (1 * S > 2 ^ 24) := by omega
  have hn0 : ¬ (1 * S = 0) := by omega
  have hf : ∀ D : Array Value, D.size = S → Instr.fill (fun i => some (i * S, S)) D [(0, .agg C)] = some C := fun D hD => by
    have sa : (Value.agg C).cells = C := rfl
    simp only [Instr.fill, sa, hC]
    have ea : C.zipIdx = (C.toList.zipIdx).toArray := by cases C; simp
    have h1 := foldl_set C.toList 0 (0 * S) D (by simp [hC, hD])
    rw [ea, List.foldl_toArray]
    rw [if_neg (by simp [hD])]
    congr 1
    refine arr_ext ?_
    rw [h1]
    simp [hC, hD]
  unfold Instr.buildSlice
  simp only [Sem.run_bind, run_underlying ht w, Result.andThen_ok, hsz, h24, hn0, if_false, hzv, Sem.run_pure]
  rw [hf _ (by simp)]
  simp [newRow]
def pslBuild (x : Value) : Sem Next := do let v ← Instr.buildSlice 51 1 #[(0, x)]; pure (.value v)
def islBuild (x : Value) : Sem Next := do let v ← Instr.buildSlice 22 1 #[(0, x)]; pure (.value v)
section
variable (ρ : Operand → Value) (d : Option Tmp) (x y : Operand) (t : TypeId) (p : String) (a : Array Edge) (g : Option (Nat × Bool))
@[go_sem ↓] theorem ex_pslBuild : execOp ρ ⟨d, .buildSlice 51 1 #[(0, x)], t, p, a, g⟩ = pslBuild (ρ x) := by simp [execOp, pslBuild]
@[go_sem ↓] theorem ex_islBuild : execOp ρ ⟨d, .buildSlice 22 1 #[(0, x)], t, p, a, g⟩ = islBuild (ρ x) := by simp [execOp, islBuild]
end
theorem under_ps : Try.prog.underlying 51 = some (.slice 54) := by kernel_rfl
theorem info_p : ∃ i, Try.prog.info? 54 = some i ∧ i.zero = some (.agg (iv (pair id0 id0))) ∧ i.size = 64 ∧ i.bytes = 64 := by
  refine ⟨_, rfl, ?_, ?_, ?_⟩ <;> kernel_rfl
theorem under_ids : Try.prog.underlying 22 = some (.slice 24) := by kernel_rfl
theorem info_id : ∃ i, Try.prog.info? 24 = some i ∧ i.zero = some (.agg (iv id0)) ∧ i.size = 32 ∧ i.bytes = 32 := by
  refine ⟨_, rfl, ?_, ?_, ?_⟩ <;> kernel_rfl
@[go_sem] theorem run_pslBuild (a b : List Nat) (ha : a.length = 32) (hb : b.length = 32) (w : World) : (pslBuild (.agg (iv (pair a b)))).run Try.prog w = .ok (.value (.slice (some ⟨w.heap.size, 0, none⟩) 1 1)) (w.alloc (.cells (iv (pair a b)) 54)) := by
  obtain ⟨i, hi, hz, hs, _⟩ := info_p
  unfold pslBuild
  rw [Sem.run_bind, run_buildSlice1 under_ps hi hz hs (pair_size _ _ id0_len id0_len) (pair_size _ _ ha hb) (by omega) (by omega)]
  rfl
@[go_sem] theorem run_islBuild (a : List Nat) (ha : a.length = 32) (w : World) : (islBuild (.agg (iv a))).run Try.prog w = .ok (.value (.slice (some ⟨w.heap.size, 0, none⟩) 1 1)) (w.alloc (.cells (iv a) 24)) := by
  obtain ⟨i, hi, hz, hs, _⟩ := info_id
  unfold islBuild
  rw [Sem.run_bind, run_buildSlice1 under_ids hi hz hs (by rw [iv_size, id0_len]) (by rw [iv_size, ha]) (by omega) (by omega)]
  rfl
theorem grownBy_setRow (w : World) (g : Nat) (cs : Array Value) : w.grownBy (w.setRow g cs) (some g) :=
  ⟨rfl, rfl, rfl, by rw [setRow_size]; exact Nat.le_refl _, fun k _ hne => by
    have : g ≠ k := fun h => hne (by rw [h])
    unfold World.setRow
    simp [Array.getElem?_modify, this]⟩
theorem World.heap_setRow_ne (w : World) (g : Nat) (cs : Array Value) (k : Nat) (h : g ≠ k) : (w.setRow g cs).heap[k]? = w.heap[k]? := by
  unfold World.setRow
  simp [Array.getElem?_modify, h]
end Go.Proofs.Ytinkdkcmmjfhoaa
/- As Flow, where the last steps may write into what is the call's own: those wait for all quiet steps. No program in sight. -/
namespace Go
set_option linter.unusedVariables false
set_option linter.unusedSimpArgs false
open Go.RowKit
section
variable {P : Program} {ops : Array Oper} {md : Region.Mode} {esc : List Nat}
/-- Whatever order comes, in whatever world has come meanwhile; behind a step of 'esc' in just the world that it leaves. -/
def wpFlowX (P : Program) (md : Region.Mode) (ops : Array Oper) (esc : List Nat) (Q : Exit → Act → World → Prop) : Nat → Array Bool → Act → World → Prop
  | 0, listed, a, w => Region.ready md ops listed = [] ∧ ∀ w', Grew w w' → Q .normal a w'
  | f + 1, listed, a, w =>
    (Region.ready md ops listed = [] → ∀ w', Grew w w' → Q .normal a w') ∧
    ∀ i ∈ Region.ready md ops listed, ∀ w', Grew w w' → wpOp P ops Q i (fun a' w'' => if esc.contains i then wpAny P md ops Q f (listed.setIfInBounds i true) a' w'' else Grew w' w'' ∧ wpFlowX P md ops esc Q f (listed.setIfInBounds i true) a' w'') a w'
theorem wpFlowX_mono {Q : Exit → Act → World → Prop} : ∀ (f : Nat) (listed : Array Bool) (a : Act) (w w' : World), Grew w w' → wpFlowX P md ops esc Q f listed a w → wpFlowX P md ops esc Q f listed a w'
  | 0, _, _, _, _, hg, h => ⟨h.1, fun w'' hg' => h.2 w'' (hg.trans hg')⟩
  | f + 1, listed, a, w, w', hg, h => ⟨fun h0 w'' hg' => h.1 h0 w'' (hg.trans hg'), fun i hi w'' hg' => h.2 i hi w'' (hg.trans hg')⟩
theorem wpAny_of_flowX {Q : Exit → Act → World → Prop} : ∀ (f : Nat) (listed : Array Bool) (a : Act) (w : World), wpFlowX P md ops esc Q f listed a w → wpAny P md ops Q f listed a w
  | 0, _, _, w, h => ⟨h.1, h.2 w (Grew.refl _)⟩
  | f + 1, listed, a, w, h => ⟨fun h0 => h.1 h0 w (Grew.refl _), fun i hi => wpOp_mono (fun a' w' h' => by
      split at h'
      · exact h'
      · exact wpAny_of_flowX f _ a' w' h'.2) (h.2 i hi w (Grew.refl _))⟩
/-- A quiet step goes first. -/
theorem wpFlowX_first {i : Nat} {oi : Oper} {v : Value} {Q : Exit → Act → World → Prop} (hQ : ∀ c a w d v, Q (.panic c) (Act.put a d v) w → Q (.panic c) a w)
    (hi : ops[i]? = some oi) (hsel : ∀ (j : Nat) (o : Oper) cs b, ops[j]? = some o → o.op ≠ .select cs b) (hne : esc.contains i = false) (hwait : ∀ t ∈ esc, Region.waitsT md ops ops.size t i = true) :
    ∀ (f : Nat) (listed : Array Bool) (a : Act) (w : World), ClosedL md ops listed →
      (∀ j oj, ops[j]? = some oj → j ≠ i → listed.getD j true = false → (∀ e ∈ oj.after, Region.binds md e = true → e.on ≠ i) → oi.apart ops oj = true) →
      i ∈ Region.ready md ops listed → GivesIn P ops (fun w' => Grew w w') oi v a →
      wpFlowX P md ops esc Q f (listed.setIfInBounds i true) (a.put oi.dst v) w → wpFlowX P md ops esc Q (f + 1) listed a w := by
  have self : ∀ (f : Nat) (listed : Array Bool) (a : Act) (w : World), GivesIn P ops (fun w' => Grew w w') oi v a → wpFlowX P md ops esc Q f (listed.setIfInBounds i true) (a.put oi.dst v) w →
      ∀ w', Grew w w' → wpOp P ops Q i (fun a' w'' => if esc.contains i then wpAny P md ops Q f (listed.setIfInBounds i true) a' w'' else Grew w' w'' ∧ wpFlowX P md ops esc Q f (listed.setIfInBounds i true) a' w'') a w' := fun f listed a w hy Hh w' hg => by
    simp only [hne, Bool.false_eq_true, if_false]
    exact wpOp_of_gives hi hy hg fun w'' hg' => ⟨hg', wpFlowX_mono f _ _ _ _ (hg.trans hg') Hh⟩
  intro f
  induction f with
  | zero =>
    intro listed a w _ _ hr hy Hh
    refine ⟨fun h => (by rw [h] at hr; cases hr), fun j hj => ?_⟩
    by_cases hji : j = i
    · subst hji; exact self 0 listed a w hy Hh
    · have := ready_mono hj hji
      rw [Hh.1] at this
      cases this
  | succ f ih =>
    intro listed a w inv hfree hr hy Hh
    refine ⟨fun h => (by rw [h] at hr; cases hr), fun j hj => ?_⟩
    by_cases hji : j = i
    · subst hji; exact self (f + 1) listed a w hy Hh
    · have h1 := Hh.2 j (ready_mono hj hji)
      obtain ⟨hjun, oj, hoj, hall⟩ := mem_ready.1 hj
      have hun := (mem_ready.1 hr).1
      have hesc : esc.contains j = false := by
        cases he : esc.contains j with
        | false => rfl
        | true =>
          have h2 := inv.ready_waits hj (hwait j (by simpa using he))
          rw [getD_both hun] at h2
          cases h2
      have hnot : ∀ e ∈ oj.after, Region.binds md e = true → e.on ≠ i := fun e he hb heq => by
        have h1 := hall e he hb
        rw [heq, getD_both hun] at h1
        cases h1
      have hfree' : ∀ k ok, ops[k]? = some ok → k ≠ i → (listed.setIfInBounds j true).getD k true = false →
          (∀ e ∈ ok.after, Region.binds md e = true → e.on ≠ i) → oi.apart ops ok = true := fun k ok hk hki hun hno => by
        refine hfree k ok hk hki ?_ hno
        by_cases hjk : j = k
        · subst hjk; exact hjun
        · rw [getD_set_ne true hjk] at hun; exact hun
      have hap := hfree j oj hoj hji hjun hnot
      intro w' hg
      simp only [hesc, Bool.false_eq_true, if_false] at h1 ⊢
      have h2 := wpOp_putG hoj hap (fun cs b => hsel i oi cs b hi) (fun cs b => hsel j oj cs b hoj) hQ hy (h1 w' hg)
      refine wpOp_mono (fun a' w'' h3 => ⟨h3.2.1, ih (listed.setIfInBounds j true) a' w'' (inv.set hj) hfree' (ready_mono hr (Ne.symm hji)) (h3.1.sub fun x hx => hg.trans (h3.2.1.trans hx)) ?_⟩) h2
      rw [Array.setIfInBounds_comm _ _ hji]
      exact h3.2.2
def Region.closedB (md : Region.Mode) (ops : Array Oper) (listed : Array Bool) : Bool :=
  (List.range ops.size).all fun j => !listed.getD j false || match ops[j]? with | some o => o.after.all fun e => !Region.binds md e || listed.getD e.on false | none => true
theorem closed_of_B {listed : Array Bool} (h : Region.closedB md ops listed = true) : ClosedL md ops listed := by
  intro j oj hoj hl e he hb
  have hj : j < ops.size := (Array.getElem?_eq_some_iff.1 hoj).1
  have h1 := List.all_eq_true.1 h j (by simpa using hj)
  simp only [hl, hoj, Bool.not_true, Bool.false_or] at h1
  have h2 := (Array.all_eq_true'.1 h1) e he
  simpa [hb] using h2
def Region.flowLexX (md : Region.Mode) (ops : Array Oper) (esc : List Nat) : List Nat → Array Bool → Bool
  | [], _ => true
  | k :: ks, listed => (Region.ready md ops listed).contains k && Region.free md ops listed k && !esc.contains k && (esc.all fun t => Region.waitsT md ops ops.size t k) && Region.flowLexX md ops esc ks (listed.setIfInBounds k true)
theorem wpFlowX_lex {Q : Exit → Act → World → Prop} {A : Act} (hQ : ∀ c a w d v, Q (.panic c) (Act.put a d v) w → Q (.panic c) a w) (hsel : Region.noSelect ops = true) {w : World} (f : Nat) :
    ∀ (qs : List Nat) (listed : Array Bool) (a : Act), ClosedL md ops listed → wpFlowX P md ops esc Q f (Region.listAll listed qs) A w → Region.flowLexX md ops esc qs listed = true → givesAll P ops (fun w' => Grew w w') A qs a → wpFlowX P md ops esc Q (qs.length + f) listed a w
  | [], listed, a, _, hE, _, h => by
    simp only [givesAll] at h
    subst h
    rw [List.length_nil, Nat.zero_add]
    exact hE
  | k :: qs, listed, a, inv, hE, hB, h => by
    simp only [Region.flowLexX, Bool.and_eq_true] at hB
    obtain ⟨⟨⟨⟨hr, hf⟩, hne⟩, hw⟩, hB'⟩ := hB
    obtain ⟨o, d, ho', hd, hy, hk⟩ := h
    have hr' : k ∈ Region.ready md ops listed := by simpa using hr
    rw [List.length_cons, show qs.length + 1 + f = qs.length + f + 1 by omega]
    refine wpFlowX_first hQ ho' (Region.noSelect_spec hsel) (by simpa using hne) (fun t ht => List.all_eq_true.1 hw t ht) _ listed a w inv (Region.free_spec ho' hf) hr' hy ?_
    rw [hd]
    exact wpFlowX_lex hQ hsel f qs _ _ (inv.set hr') hE hB' hk
end
section
variable {P : Program} {l : List Oper} {Q : Exit → Act → World → Prop} {esc : List Nat}
/-- The call in the quiet part of a region's beginning, behind a call before. -/
theorem Calls.pure_of_g4 {f : FuncId} {args : Array Value} {X : World} {a b c n : Junk} {v : Value}
    (h : Calls P f args (X.grow ⟨a.objs ++ (b.objs ++ (c.objs ++ n.objs)), n.drawn⟩) fun e w' => e = .returned v ∧ Grew (X.grow ⟨a.objs ++ (b.objs ++ (c.objs ++ n.objs)), n.drawn⟩) w') :
    Calls P f args (X.grow ⟨a.objs ++ (b.objs ++ (c.objs ++ n.objs)), n.drawn⟩) fun e w'' => e = .returned v ∧ ∃ m : Junk, w'' = X.grow ⟨a.objs ++ (b.objs ++ (c.objs ++ m.objs)), m.drawn⟩ :=
  h.mono fun _ _ ⟨he, hm⟩ => ⟨he, by obtain ⟨m, rfl⟩ := hm; exact ⟨⟨n.objs ++ m.objs, m.drawn⟩, by simp [grow_grow, Array.append_assoc]⟩⟩
theorem wpFlowX_quiets (qs : List Nat) {n : Nat} {listed : Array Bool} {a : Act} {w : World} (hn : decide (qs.length ≤ n) = true)
    (hB : (Region.noSelect l.toArray && Region.flowLexX .any l.toArray esc qs listed && envOk qs l.length && Region.closedB .any l.toArray listed) = true) (hD : envDsts qs l.toArray a.tmps.size = true)
    (hQ : ∀ c a w d v, Q (.panic c) (Act.put a d v) w → Q (.panic c) a w) (V : Act)
    (hq : ∀ A, Hid (A = V) → ∀ δ', wpQuiet P l.toArray (fun w' => ∃ n, w' = (w.grow δ').grow n) (fun a' => a' = A) (pickOps l qs) a)
    (h : wpFlowX P .any l.toArray esc Q (n - qs.length) (Region.listAll listed qs) V w) : wpFlowX P .any l.toArray esc Q n listed a w := by
  simp only [Bool.and_eq_true] at hB
  obtain ⟨⟨⟨hsel, hlex⟩, hok⟩, hcl⟩ := hB
  obtain ⟨f, rfl⟩ : ∃ f, n = qs.length + f := ⟨n - qs.length, by have := of_decide_eq_true hn; omega⟩
  rw [Nat.add_sub_cancel_left] at h
  exact wpFlowX_lex hQ hsel f qs listed a (closed_of_B hcl) h hlex (givesAll_of_quiet (H := fun w' => Grew w w') ⟨w, Grew.refl _⟩ qs (pickOps l qs) a (map_pick l qs hok) hD (fun Y ⟨n, hY⟩ => by subst hY; exact hq V (rfl : V = V) n))
theorem wpOp_of_list {k : Nat} (hlt : k < l.length) {K : Act → World → Prop} {a : Act} {w : World} (h1 : wpList P l.toArray (Exit.then K Q) (pickOps l [k]) a w) : wpOp P l.toArray Q k K a w := by
  rw [pickOps_cons, pick1_eq l k _ hlt, pickOps_nil] at h1
  unfold wpOp
  simp only [List.getElem?_toArray, List.getElem?_eq_getElem hlt]
  unfold wpList at h1
  split at h1
  · rename_i hw
    rw [if_pos hw]
    rcases h1 with h1 | ⟨h1, a2, w2, h2⟩
    · exact .inl (by
        unfold Oper.wp at *
        generalize (execOp a.eval l[k]).run P w = r at *
        cases r with
        | ok n w'' =>
          cases n <;> simp only [Oper.upon] at h1 ⊢ <;> first
            | exact h1
            | exact Calls.mono h1 (fun e w'' he => by cases e <;> exact he)
        | halt x w'' => cases x <;> simp only [Oper.upon] at h1 ⊢ <;> exact h1)
    · exact .inr ⟨h1, a2, w2, h2⟩
  · rename_i hw
    rw [if_neg hw]
    exact h1
/-- The one step that is ready. -/
theorem wpFlowX_one {x : Nat} {listed : Array Bool} {a : Act} {w : World} (k : Nat) (hx : decide (0 < x) = true) (hr : Region.ready .any l.toArray listed = [k]) (hk : decide (k < l.length) = true) (he : esc.contains k = false)
    (h : ∀ δ, wpList P l.toArray (Exit.then (fun a' w'' => Grew (w.grow δ) w'' ∧ wpFlowX P .any l.toArray esc Q (x - 1) (listed.setIfInBounds k true) a' w'') Q) (pickOps l [k]) a (w.grow δ)) : wpFlowX P .any l.toArray esc Q x listed a w := by
  obtain ⟨f, rfl⟩ : ∃ f, x = f + 1 := ⟨x - 1, by have := of_decide_eq_true hx; omega⟩
  refine ⟨fun h0 => (by rw [hr] at h0; cases h0), fun i hi w' hg => ?_⟩
  rw [hr, List.mem_singleton] at hi
  subst hi
  obtain ⟨δ, rfl⟩ := hg
  simp only [he, Bool.false_eq_true, if_false]
  exact wpOp_of_list (of_decide_eq_true hk) (h δ)
/-- A step that writes into what is the call's own: behind it nothing comes meanwhile. -/
theorem wpFlowX_esc {x : Nat} {listed : Array Bool} {a : Act} {w : World} (k : Nat) (hx : decide (0 < x) = true) (hr : Region.ready .any l.toArray listed = [k]) (hk : decide (k < l.length) = true) (he : esc.contains k = true)
    (h : ∀ δ, wpList P l.toArray (Exit.then (fun a' w'' => wpAny P .any l.toArray Q (x - 1) (listed.setIfInBounds k true) a' w'') Q) (pickOps l [k]) a (w.grow δ)) : wpFlowX P .any l.toArray esc Q x listed a w := by
  obtain ⟨f, rfl⟩ : ∃ f, x = f + 1 := ⟨x - 1, by have := of_decide_eq_true hx; omega⟩
  refine ⟨fun h0 => (by rw [hr] at h0; cases h0), fun i hi w' hg => ?_⟩
  rw [hr, List.mem_singleton] at hi
  subst hi
  obtain ⟨δ, rfl⟩ := hg
  simp only [he, if_true]
  exact wpOp_of_list (of_decide_eq_true hk) (h δ)
theorem wpAny_one {x : Nat} {listed : Array Bool} {a : Act} {w : World} (k : Nat) (hx : decide (0 < x) = true) (hr : Region.ready .any l.toArray listed = [k]) (hk : decide (k < l.length) = true)
    (h : wpList P l.toArray (Exit.then (fun a' w'' => wpAny P .any l.toArray Q (x - 1) (listed.setIfInBounds k true) a' w'') Q) (pickOps l [k]) a w) : wpAny P .any l.toArray Q x listed a w := by
  obtain ⟨f, rfl⟩ : ∃ f, x = f + 1 := ⟨x - 1, by have := of_decide_eq_true hx; omega⟩
  refine ⟨fun h0 => (by rw [hr] at h0; cases h0), fun i hi => ?_⟩
  rw [hr, List.mem_singleton] at hi
  subst hi
  exact wpOp_of_list (of_decide_eq_true hk) h
theorem wpAny_end {x : Nat} {listed : Array Bool} {a : Act} {w : World} (hx : decide (x = 0) = true) (hr : (Region.ready .any l.toArray listed).isEmpty = true) (h : Q .normal a w) : wpAny P .any l.toArray Q x listed a w := by
  obtain rfl := of_decide_eq_true hx
  exact ⟨by simpa using hr, h⟩
theorem wp_region_flowX (esc : List Nat) {id : Nat} {a : Act} {w : World} (hm : P.follows .mixedOrders = true) (h : ∀ δ, wpFlowX P .any l.toArray esc Q l.length (Array.replicate l.length false) a (w.grow δ)) : (Code.region id l.toArray true).wp P Q a w := by
  refine wp_region_any hm (wpAny_of_flowX (esc := esc) _ _ _ _ ?_)
  have h1 := h ⟨#[], w.drawn + 1⟩
  rw [← drew_is_grow] at h1
  simpa using h1
end
end Go
/- A slice of zeros, made; what a new block shows. -/
namespace Go.Proofs.Ytinkdkcmmjfhoaa
set_option linter.unusedVariables false
set_option linter.unusedSimpArgs false
open Go.RowKit
def zeros (n : Nat) : List Nat := List.replicate n 0
theorem zeros_len (n : Nat) : (zeros n).length = n := by simp [zeros]
@[go_sem] theorem make_b (n : Nat) (hn : n ≤ 1099511627776) (w : World) : (Instr.makeSlice 38 (.int .i64 (n : Int)) (.int .i64 (n : Int))).run Try.prog w = .ok (.slice (some ⟨w.heap.size, 0, none⟩) n n) (w.alloc (.cells (bys (zeros n)).toArray 5)) := by
  obtain ⟨i, hi, hz, hsz, hby⟩ := info_b
  have h := run_make (P := Try.prog) w 38 5 i (.int .u8 0) under_bs hi hz .i64 .i64 n n (by omega) (by omega) (by rw [hby]; omega) (by omega)
  rw [h, hsz]
  simp only [Int.toNat_natCast]
  congr 2
  congr 1
  apply Array.ext'
  simp only [madeCells, Value.cells, bys, zeros, Nat.mul_one, List.map_replicate]
  apply List.ext_getElem
  · simp
  · intro k h1 h2
    simp [Nat.mod_one]
theorem shows_alloc (w : World) (xs : List Value) (t : TypeId) (c : Nat) : Shows (w.alloc (.cells xs.toArray t)) (.slice (some ⟨w.heap.size, 0, none⟩) xs.length c) xs := by
  refine .inl ⟨_, _, _, rfl, by simp, fun j u hj => ?_⟩
  rw [cell_rowAt]
  simp [go_sem, hj]
end Go.Proofs.Ytinkdkcmmjfhoaa
/- A row of the call's own, opened and built. No program in sight. -/
namespace Go.Proofs.Ytinkdkcmmjfhoaa
set_option linter.unusedVariables false
set_option linter.unusedSimpArgs false
open Go.RowKit
theorem own_frozen {w : World} {base g n cap : Nat} {e : TypeId} {xs : List Value} (h : OwnR w base e (.slice (some ⟨g, 0, none⟩) n cap) xs) (j : Nat) : w.frozen? ⟨g, j, none⟩ = false := by
  rcases h.2 with ⟨h', _⟩ | ⟨g', cap', cur, h', hb, hg, _⟩
  · simp at h'
  · simp only [Value.slice.injEq, Option.some.injEq, Addr.mk.injEq, and_true, true_and] at h'
    obtain ⟨rfl, _⟩ := h'
    simp [World.frozen?, hg]
theorem own_cell {w : World} {base g n cap : Nat} {e : TypeId} {xs : List Value} (h : OwnR w base e (.slice (some ⟨g, 0, none⟩) n cap) xs) (j : Nat) (hj : j < xs.length) : w.cell? ⟨g, j, none⟩ = some xs[j] := by
  have := h.cells (g := g) rfl j xs[j] (by simp [hj])
  rw [add_off, Nat.zero_add] at this
  exact this
theorem own_stored {w : World} {base g n cap : Nat} {e : TypeId} {xs : List Value} (h : OwnR w base e (.slice (some ⟨g, 0, none⟩) n cap) xs) (j : Nat) (u : Value) :
    OwnR (w.setCell ⟨g, j, none⟩ u) base e (.slice (some ⟨g, 0, none⟩) n cap) (xs.set j u) ∧ w.grownBy (w.setCell ⟨g, j, none⟩ u) (some g) := by
  rcases h.2 with ⟨h', _⟩ | ⟨g', cap', cur, h', hb, hg, hn, _⟩
  · simp at h'
  · have hlen : n = xs.length := by simp only [Value.slice.injEq] at h'; omega
    subst hlen
    have := World.ownsRow.stored h j u
    exact ⟨by unfold OwnR; rw [List.length_set]; exact this.1, this.2⟩
/-- A row of the call's own, opened. -/
theorem own_form {w : World} {base : Nat} {e : TypeId} {v : Value} {xs : List Value} (h : OwnR w base e v xs) (hne : 0 < xs.length) :
    ∃ g cap, v = .slice (some ⟨g, 0, none⟩) xs.length cap ∧ base ≤ g ∧ g < w.heap.size ∧ xs.length ≤ cap ∧ cap ≤ maxLen ∧ ∀ j, j < xs.length → w.cell? ⟨g, j, none⟩ = xs[j]? := by
  have h' := h
  rcases h.2 with ⟨rfl, h0⟩ | ⟨g, cap, cur, rfl, hb, hg, hn, hm, _, _⟩
  · omega
  · exact ⟨g, cap, rfl, hb, (Array.getElem?_eq_some_iff.1 hg).1, hn, hm, fun j hj => by rw [own_cell h' j hj, List.getElem?_eq_getElem hj]⟩
theorem own_alloc (w : World) (base : Nat) (e : TypeId) (xs : List Value) (hb : base ≤ w.heap.size) (hl : xs.length ≤ maxLen) : OwnR (w.alloc (.cells xs.toArray e)) base e (.slice (some ⟨w.heap.size, 0, none⟩) xs.length xs.length) xs :=
  ⟨by simp, .inr ⟨_, _, xs.toArray, rfl, hb, heap_alloc_new w _, Nat.le_refl _, hl, by simp, by simp⟩⟩
theorem own_alloc_g (X : World) (a : Junk) (base : Nat) (e : TypeId) (xs : List Value) (hb : base ≤ X.heap.size) (hl : xs.length ≤ maxLen) : OwnR ((X.grow a).alloc (.cells xs.toArray e)) base e (.slice (some ⟨X.heap.size + a.n, 0, none⟩) xs.length xs.length) xs := by
  have := own_alloc (X.grow a) base e xs (by rw [size_grow]; omega) hl
  rwa [size_grow] at this
end Go.Proofs.Ytinkdkcmmjfhoaa
