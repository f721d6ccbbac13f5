/- wide's Bytes, and the document's; ids by '=='; bytes told as strings. -/
import Derived.Test.YtcoclcbclbjdaaaRows
import Derived.Test.YtcoclcbclbjdaaaOf32
import Derived.Test.YtcoclcbclbjdaaaStr
import Derived.DeepKeys
namespace Go.Proofs.Ytcoclcbclbjdaaa
set_option linter.unusedVariables false
set_option linter.unusedSimpArgs false
open Go.RowKit

/-- The id of a number. -/
theorem bytesN_lt (x : Nat) : ∀ c ∈ bytesN x, c < 256 := by
  intro c hc
  unfold bytesN at hc
  simp only [List.mem_map] at hc
  obtain ⟨i, _, rfl⟩ := hc
  exact byteN_lt x i
def Wd.id (x : Wd) : Idb := ⟨bytesN x.n, bytesN_length _, bytesN_lt _⟩
theorem Wd.id_w (x : Wd) : x.id.w.n = x.n := by rw [Idb.w_n]; exact numB_bytesN x.n x.lt

/-- Are two ids the same? -/
def ieq (a b : List Nat) : Bool := decide (a = b)
theorem equal_id (a b : List Nat) (ha : a.length = 32) (hb : b.length = 32) (w : World) : (Op.equalIn 10000 37 (.agg (iv a)) (.agg (iv b))).run Try.prog w = .ok (ieq a b) w := by
  have e : ∀ l : List Nat, iv l = ((l.map fun (c : Nat) => (c : Int)).map (Value.int .u8)).toArray := fun l => by simp [iv]
  rw [e, e, show (10000 : Nat) = 9998 + 2 from rfl, run_equalIn_ints w 9998 under_id Try.underlying5 (by kernel_rfl) _ _ (by simp [ha]) (by simp [hb])]
  congr 1
  unfold ieq
  rw [Bool.eq_iff_iff, decide_eq_true_eq, decide_eq_true_eq]
  constructor
  · intro h
    refine (List.map_inj_right ?_).1 h
    intro x y e
    omega
  · intro h; rw [h]
attribute [go_sem] equal_id
@[go_sem] theorem guard_id : Try.prog.eqGuardType Try.prog.depth 37 = false := by kernel_rfl

theorem run_id_string (w : World) (g n c : Nat) (h : rowOk (w.rowAt g) 0 n = true) : (convert 39 9 (.slice (some ⟨g, 0, none⟩) n c)).run Try.prog w = .ok (.string (bstr (rowNats (w.rowAt g) 0 n))) w :=
  run_bytes_row w 39 9 5 g 0 n c Try.underlying39 Try.underlying5 Try.underlying9 h
attribute [go_sem] run_id_string
@[go_sem] theorem rowOk_id (a : Idb) : rowOk (iv a.l) 0 32 = true := rowOk_iv a.l 0 32 (by rw [a.len]; exact Nat.le_refl _) a.lt
@[go_sem] theorem rowNats_id (a : Idb) : rowNats (iv a.l) 0 32 = a.l := rowNats_all a.l 32 a.len

theorem shr_byte (u s : Nat) : IntKind.u8.wrap ((u : Int) / 2 ^ s) = ((u >>> s % 256 : Nat) : Int) := by
  rw [Nat.shiftRight_eq_div_pow]
  have e : ((u : Int) / 2 ^ s) = ((u / 2 ^ s : Nat) : Int) := by rw [Int.natCast_ediv, Int.natCast_pow]; rfl
  rw [e]
  show ((u / 2 ^ s : Nat) : Int) % 256 = _
  omega
theorem id_result {fn : Func} {p : Tmp} {g : Nat} {w : World} {l : List Nat} (hr : fn.results = #[.cell p 37]) (tmps : Array Value) (hp : tmps.getD p undef = .pointer (some ⟨g, 0, none⟩)) (h : w.rowAt g = iv l) (hl : l.length = 32) :
    (results fn tmps).run Try.prog w = .ok (.agg (iv l)) w := by
  have := run_result_row w (n := 31) hr tmps hp rowType_id (by rw [h, iv_size, hl])
  rwa [h] at this
set_option maxRecDepth 100000 in
set_option maxHeartbeats 1600000 in
theorem bytes_w (x : Wd) (w : World) :
    Calls Try.prog 19 #[.agg (wv x.n)] w fun e w' => e = .returned (.agg (iv x.id.l)) ∧ Grew w w' := by
  go_enter Try.func19, Try.ntmps19
  go_wp2
  go_loopw [5] (fun n wr => ∃ (k : Nat), k ≤ 32 ∧ n = .int .i64 k ∧
      wr = (((w.alloc (.cells (wv x.n) 24)).alloc (.cells (iv id0) 37)).alloc (.cells (iv (filled (byteN x.n) 32 k)) 37))) (fun n _ => 32 - (intOf n).toNat)
  case atStart => exact ⟨0, by omega, rfl, by rw [filled_zero]; rfl⟩
  case round =>
    obtain ⟨k, hk, rfl, rfl⟩ := hrel
    by_cases hn : k < 32
    · have h1 : (wv x.n)[3 - k / 8]? = some (.int .u64 (lb x.n (3 - k / 8))) := wv_at x.n (3 - k / 8) (by omega)
      have h2 := shr_byte (lb x.n (3 - k / 8)) (56 - 8 * (k % 8))
      rw [← byteN_lb x.n k hn] at h2
      have h3 : (iv (filled (byteN x.n) 32 k)).setIfInBounds k (.int .u8 (byteN x.n k : Nat)) = iv (filled (byteN x.n) 32 (k + 1)) := by rw [iv_set, filled_step]
      have h4 : (iv (filled (byteN x.n) 32 k))[k]? = some (.int .u8 (byteAt (filled (byteN x.n) 32 k) k : Nat)) := iv_at _ _ (by rw [filled_length]; exact hn)
      go_wp2
      exact ⟨⟨k + 1, by omega, by go_num, rfl⟩, by simp only [intOf]; omega⟩
    · obtain rfl : k = 32 := by omega
      have e : filled (byteN x.n) 32 32 = x.id.l := filled_all _ _
      rw [e]
      go_wp2
      exact bodyPost_ret (v := .agg (iv x.id.l)) (id_result Try.results19 _ rfl (by simp [go_sem]) x.id.len) rfl ⟨rfl, (by repeat (first | with_reducible exact Grew.refl _ | with_reducible apply Grew.alloc | with_reducible apply Grew.grow | with_reducible apply Grew.drew | with_reducible apply Grew.drewN))⟩

/-- 'n' bytes, of which the last 'k' are given by 'f' and the others are 0. -/
def rfilled (f : Nat → Nat) (n k : Nat) : List Nat := (List.range n).map fun i => if n - k ≤ i then f i else 0
theorem rfilled_length (f : Nat → Nat) (n k : Nat) : (rfilled f n k).length = n := by simp [rfilled]
theorem rfilled_zero (f : Nat → Nat) (n : Nat) : rfilled f n 0 = List.replicate n 0 := by
  apply List.ext_getElem
  · simp [rfilled]
  · intro i h1 h2
    have : i < n := by simpa [rfilled] using h1
    simp [rfilled]; omega
theorem rfilled_step (f : Nat → Nat) (n k : Nat) (h : k < n) : (rfilled f n k).set (n - 1 - k) (f (n - 1 - k)) = rfilled f n (k + 1) := by
  apply List.ext_getElem
  · simp [rfilled]
  · intro i h1 h2
    simp only [List.getElem_set, rfilled, List.getElem_map, List.getElem_range]
    by_cases hi : n - 1 - k = i
    · subst hi; rw [if_pos rfl, if_pos (by omega)]
    · rw [if_neg hi]
      by_cases h3 : n - k ≤ i
      · rw [if_pos h3, if_pos (by omega)]
      · rw [if_neg h3, if_neg (by omega)]
theorem rfilled_all (f : Nat → Nat) (n : Nat) : rfilled f n n = (List.range n).map f := by
  unfold rfilled
  apply List.map_congr_left
  intro i hi
  rw [if_pos (by omega)]
theorem byteN_rev (x i : Nat) (h : i < 32) : byteN x (31 - i) = lb x (i / 8) >>> (8 * (i % 8)) % 256 := by
  rw [byteN_lb x (31 - i) (by omega), show 3 - (31 - i) / 8 = i / 8 by omega, show 56 - 8 * ((31 - i) % 8) = 8 * (i % 8) by omega]
def shf (u j : Nat) : Nat := u >>> (8 * j)
theorem shf_zero (u : Nat) : shf u 0 = u := by simp [shf]
theorem shf_le (u j : Nat) : shf u j ≤ u := Nat.shiftRight_le _ _
theorem shf_mod (x k : Nat) (h : k < 32) : (shf (lb x (k / 8)) (k % 8) : Int) % 256 = ((byteN x (31 - k) : Nat) : Int) := by
  rw [byteN_rev x k h]; unfold shf; omega
theorem div256 (u j : Nat) : (((shf u j : Nat) : Int) / 256) = ((shf u (j + 1) : Nat) : Int) := by
  unfold shf
  rw [show 8 * (j + 1) = 8 * j + 8 by omega, Nat.shiftRight_add, Nat.shiftRight_eq_div_pow (u >>> (8 * j)) 8]
  omega
set_option maxRecDepth 100000 in
set_option maxHeartbeats 3200000 in
theorem rbytes_w (x : Wd) (w : World) :
    Calls Try.prog 25 #[.agg (wv x.n)] w fun e w' => e = .returned (.agg (iv x.id.l)) ∧ Grew w w' := by
  go_enter Try.func25, Try.ntmps25
  go_wp2
  go_loopw [4] (fun n wr => ∃ (k : Nat), k ≤ 32 ∧ n = .int .i64 k ∧
      wr = (((w.alloc (.cells (wv x.n) 24)).alloc (.cells (iv id0) 37)).alloc (.cells (iv (rfilled (byteN x.n) 32 k)) 37))) (fun n _ => 32 - (intOf n).toNat)
  case atStart => exact ⟨0, by omega, rfl, by rw [rfilled_zero]; rfl⟩
  case round =>
    obtain ⟨k, hk, rfl, rfl⟩ := hrel
    by_cases hn : k < 32
    · have h1 : (wv x.n)[k / 8]? = some (.int .u64 (lb x.n (k / 8))) := wv_at x.n (k / 8) (by omega)
      have hb := lb_lt x.n (k / 8)
      go_wp2
      go_loop [5, 6] (fun v n => ∃ j : Nat, j ≤ k % 8 ∧ n = .int .i64 j ∧ v = .int .u64 ((shf (lb x.n (k / 8)) j : Nat) : Int)) (fun _ n => k % 8 - (intOf n).toNat)
      case atStart => exact ⟨0, by omega, rfl, by rw [shf_zero]⟩
      case round =>
        obtain ⟨j, hj, rfl, rfl⟩ := hrel
        by_cases hjn : j < k % 8
        · have h2 := div256 (lb x.n (k / 8)) j
          have h3 : shf (lb x.n (k / 8)) (j + 1) < 18446744073709551616 := Nat.lt_of_le_of_lt (shf_le _ _) hb
          have hlt : decide ((j : Int) < (k : Int) % 8) = true := decide_eq_true (by omega)
          go_wp2
          exact ⟨⟨j + 1, by omega, by go_num, rfl⟩, by simp only [intOf]; omega⟩
        · obtain rfl : j = k % 8 := by omega
          have h2 := shf_mod x.n k hn
          have h3 := byteN_lt x.n (31 - k)
          have h4 : (iv (rfilled (byteN x.n) 32 k))[31 - k]? = some (.int .u8 (byteAt (rfilled (byteN x.n) 32 k) (31 - k) : Nat)) := iv_at _ _ (by rw [rfilled_length]; omega)
          have h5 : (iv (rfilled (byteN x.n) 32 k)).setIfInBounds (31 - k) (.int .u8 (byteN x.n (31 - k) : Nat)) = iv (rfilled (byteN x.n) 32 (k + 1)) := by rw [iv_set]; exact congrArg iv (rfilled_step (byteN x.n) 32 k hn)
          go_wp2
          exact ⟨⟨k + 1, by omega, by go_num, rfl⟩, by simp only [intOf]; omega⟩
    · obtain rfl : k = 32 := by omega
      have e : rfilled (byteN x.n) 32 32 = x.id.l := rfilled_all _ _
      rw [e]
      go_wp2
      exact bodyPost_ret (v := .agg (iv x.id.l)) (id_result Try.results25 _ rfl (by simp [go_sem]) x.id.len) rfl ⟨rfl, (by repeat (first | with_reducible exact Grew.refl _ | with_reducible apply Grew.alloc | with_reducible apply Grew.grow | with_reducible apply Grew.drew | with_reducible apply Grew.drewN))⟩
end Go.Proofs.Ytcoclcbclbjdaaa
