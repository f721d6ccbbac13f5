/- Bytes as strings. No program in sight. -/
import Derived.Test.YtmnnmndnpkanlaaRowed
import Derived.Test.YtmnnmndnpkanlaaIdMath
import Derived.Laws.BytesString
import Derived.Laws.Strings
namespace Go.Proofs.Ytmnnmndnpkanlaa
set_option linter.unusedVariables false
set_option linter.unusedSimpArgs false
open Go.RowKit

/-- The string of bytes. -/
def bstr (l : List Nat) : ByteArray := ⟨(l.map UInt8.ofNat).toArray⟩
theorem bstr_toList (l : List Nat) : (bstr l).toList = l.map UInt8.ofNat := ByteArray.toList_mk _
theorem u8_inj {a b : Nat} (ha : a < 256) (hb : b < 256) (h : UInt8.ofNat a = UInt8.ofNat b) : a = b := by
  have := congrArg UInt8.toNat h
  simpa [Nat.mod_eq_of_lt ha, Nat.mod_eq_of_lt hb] using this
theorem u8_lt {a b : Nat} (ha : a < 256) (hb : b < 256) : UInt8.ofNat a < UInt8.ofNat b ↔ a < b := by
  rw [UInt8.lt_iff_toNat_lt]
  simp [Nat.mod_eq_of_lt ha, Nat.mod_eq_of_lt hb]
/-- Which of two rows of bytes comes first. -/
def lexB : List Nat → List Nat → Bool
  | _, [] => false
  | [], _ :: _ => true
  | a :: x, b :: y => decide (a < b) || (decide (a = b) && lexB x y)
theorem less_bstr : ∀ (l k : List Nat), (∀ c ∈ l, c < 256) → (∀ c ∈ k, c < 256) → Op.bytesLess (bstr l).toList (bstr k).toList = lexB l k := by
  intro l k
  rw [bstr_toList, bstr_toList]
  induction l generalizing k with
  | nil => intro _ _; cases k <;> rfl
  | cons a l ih =>
    intro h1 h2
    cases k with
    | nil => rfl
    | cons b k =>
      have ha := h1 a (by simp)
      have hb := h2 b (by simp)
      simp only [List.map_cons, Op.bytesLess, lexB]
      rw [ih k (fun c hc => h1 c (by simp [hc])) (fun c hc => h2 c (by simp [hc]))]
      congr 1
      · rw [Bool.eq_iff_iff, decide_eq_true_eq, decide_eq_true_eq]; exact u8_lt ha hb
      · congr 1
        rw [Bool.eq_iff_iff, beq_iff_eq, decide_eq_true_eq]
        exact ⟨u8_inj ha hb, fun h => by rw [h]⟩
theorem eq_bstr : ∀ (l k : List Nat), (∀ c ∈ l, c < 256) → (∀ c ∈ k, c < 256) → ((bstr l).toList == (bstr k).toList) = decide (l = k) := by
  intro l k h1 h2
  rw [bstr_toList, bstr_toList, Bool.eq_iff_iff, beq_iff_eq, decide_eq_true_eq]
  constructor
  · intro h
    induction l generalizing k with
    | nil => cases k with
      | nil => rfl
      | cons b k => simp at h
    | cons a l ih =>
      cases k with
      | nil => simp at h
      | cons b k =>
        simp only [List.map_cons, List.cons.injEq] at h
        rw [u8_inj (h1 a (by simp)) (h2 b (by simp)) h.1, ih k (fun c hc => h1 c (by simp [hc])) (fun c hc => h2 c (by simp [hc])) h.2]
  · intro h; rw [h]
theorem lexB_num : ∀ (l k : List Nat), l.length = k.length → (∀ c ∈ l, c < 256) → (∀ c ∈ k, c < 256) → lexB l k = decide (numB l < numB k) := by
  intro l
  induction l with
  | nil => intro k h _ _; have : k = [] := List.length_eq_zero_iff.1 h.symm; subst this; simp [lexB]
  | cons a l ih =>
    intro k h h1 h2
    cases k with
    | nil => simp at h
    | cons b k =>
      have hl : l.length = k.length := by simpa using h
      have e1 : numB (a :: l) = a * 256 ^ l.length + numB l := by
        have := numB_append [a] l
        simpa [numB] using this
      have e2 : numB (b :: k) = b * 256 ^ k.length + numB k := by
        have := numB_append [b] k
        simpa [numB] using this
      have g1 := numB_lt l fun c hc => h1 c (by simp [hc])
      have g2 := numB_lt k fun c hc => h2 c (by simp [hc])
      simp only [lexB]
      rw [ih k hl (fun c hc => h1 c (by simp [hc])) (fun c hc => h2 c (by simp [hc])), e1, e2, hl]
      rw [hl] at g1
      generalize 256 ^ k.length = p at *
      generalize numB l = x at *
      generalize numB k = y at *
      rw [Bool.eq_iff_iff]
      simp only [Bool.or_eq_true, Bool.and_eq_true, decide_eq_true_eq]
      rcases Nat.lt_trichotomy a b with hab | hab | hab
      · have := Nat.mul_le_mul_right p (show a + 1 ≤ b from hab)
        rw [Nat.add_mul, Nat.one_mul] at this
        exact ⟨fun _ => by omega, fun _ => .inl hab⟩
      · subst hab
        exact ⟨fun h => by rcases h with h | h <;> omega, fun h => .inr ⟨rfl, by omega⟩⟩
      · have := Nat.mul_le_mul_right p (show b + 1 ≤ a from hab)
        rw [Nat.add_mul, Nat.one_mul] at this
        exact ⟨fun h => by rcases h with h | h <;> omega, fun h => by omega⟩

/-- The bytes that lie in a row. -/
def rowNats (cs : Array Value) (o n : Nat) : List Nat := (List.range n).map fun i => match cs[o + i]? with | some (.int .u8 a) => a.toNat | _ => 0
def rowOk (cs : Array Value) (o n : Nat) : Bool := (List.range n).all fun i => match cs[o + i]? with | some (.int .u8 a) => decide (0 ≤ a ∧ a < 256) | _ => false
theorem rowNats_length (cs : Array Value) (o n : Nat) : (rowNats cs o n).length = n := by simp [rowNats]
theorem rowNats_iv (l : List Nat) (o n : Nat) (h : o + n ≤ l.length) : rowNats (iv l) o n = (l.drop o).take n := by
  apply List.ext_getElem
  · simp [rowNats]; omega
  · intro i h1 h2
    simp only [rowNats_length] at h1
    simp only [rowNats, List.getElem_map, List.getElem_range, iv_get l (o + i) (by omega), List.getElem_take, List.getElem_drop]
    omega
theorem rowOk_iv (l : List Nat) (o n : Nat) (h : o + n ≤ l.length) (hc : ∀ c ∈ l, c < 256) : rowOk (iv l) o n = true := by
  unfold rowOk
  rw [List.all_eq_true]
  intro i hi
  have hi' : i < n := by simpa using hi
  rw [iv_get l (o + i) (by omega)]
  have := hc l[o + i] (List.getElem_mem _)
  simp; omega
theorem rowNats_all (l : List Nat) (n : Nat) (h : l.length = n) : rowNats (iv l) 0 n = l := by
  rw [rowNats_iv l 0 n (by omega), List.drop_zero, List.take_of_length_le (by omega)]
theorem run_bytes_row {P : Program} (w : World) (src dst e : TypeId) (g o n c : Nat)
    (hs : P.underlying src = some (.slice e)) (he : P.underlying e = some (.int .u8)) (hd : P.underlying dst = some .string) (h : rowOk (w.rowAt g) o n = true) :
    (convert src dst (.slice (some ⟨g, o, none⟩) n c)).run P w = .ok (.string (bstr (rowNats (w.rowAt g) o n))) w := by
  rw [run_convert_bytes_string w src dst e _ _ _ hs he hd]
  unfold rowOk at h
  rw [List.all_eq_true] at h
  have hl := run_loadCells_list (P := P) (w := w) ⟨g, o, none⟩ ((rowNats (w.rowAt g) o n).map fun (c : Nat) => Value.int .u8 (c : Int)) (fun j v hv => by
    have hj : j < n := by
      have := (List.getElem?_eq_some_iff.1 hv).1
      simpa [rowNats] using this
    have hb := h j (by simpa using hj)
    have hadd : (⟨g, o, none⟩ : Addr).add j = ⟨g, o + j, none⟩ := by unfold Addr.add; split <;> simp_all
    rw [hadd, cell_rowAt]
    simp only [rowNats, List.map_map, List.getElem?_map, List.getElem?_range hj, Option.map_some, Function.comp] at hv
    split at hb
    · rename_i a ha
      rw [ha] at hv ⊢
      simp only [decide_eq_true_eq] at hb
      simp only [Option.some.injEq] at hv
      rw [← hv]
      congr 2
      omega
    · cases hb)
  rw [List.length_map, rowNats_length] at hl
  have hm : ((rowNats (w.rowAt g) o n).map fun (c : Nat) => Value.int .u8 (c : Int)) = (((rowNats (w.rowAt g) o n).map fun (c : Nat) => (c : Int)).map (Value.int .u8)) := by simp
  rw [hm] at hl
  rw [run_bytesToString w ⟨g, o, none⟩ n c _ hl]
  congr 2
  generalize rowNats (w.rowAt g) o n = l
  have key : ∀ (l : List Nat) (s : ByteArray), (l.map fun (c : Nat) => (c : Int)).foldl (fun r n => r.push (UInt8.ofNat n.toNat)) s = ⟨(s.data.toList ++ l.map UInt8.ofNat).toArray⟩ := by
    intro l
    induction l with
    | nil => intro s; simp
    | cons a l ih =>
      intro s
      simp only [List.map_cons, List.foldl_cons, Int.toNat_natCast]
      rw [ih]
      simp [ByteArray.push]
  rw [key]
  rfl
end Go.Proofs.Ytmnnmndnpkanlaa
