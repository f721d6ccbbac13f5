/- How many bits a number has. -/
import Derived.Test.YtcoclcbclbjdaaaRows
import Derived.Test.YtcoclcbclbjdaaaWide4
import Derived.Lib.BitFns
import Derived.Deep.Light
namespace Go.Proofs.Ytcoclcbclbjdaaa
set_option linter.unusedVariables false
set_option linter.unusedSimpArgs false
open Go.RowKit

theorem wrap_add' (k a b : Nat) (hk : k ≤ 56) (ha : a ≤ 8) (hb : b = k + a) : (k : Int) + (a : Int) = (b : Int) := by omega
theorem len8_bd (i : Int) (h0 : 0 ≤ i) (h1 : i ≤ 255) : 0 ≤ Lib.len8 i ∧ Lib.len8 i ≤ 8 := by
  rw [Lib.len8_of i h0 h1]; have := Lib.bitLen_le8' i h0 h1; omega
set_option maxRecDepth 1000000 in
theorem fold_len8 : (ByteArray.mk ((([0, 1, 2, 2, 3, 3, 3, 3, 4, 4, 4, 4, 4, 4, 4, 4, 5, 5, 5, 5, 5, 5, 5, 5, 5, 5, 5, 5, 5, 5, 5, 5, 6, 6, 6, 6, 6, 6, 6, 6, 6, 6, 6, 6, 6, 6, 6, 6, 6, 6, 6, 6, 6, 6, 6, 6, 6, 6, 6, 6, 6, 6, 6, 6] : List UInt8).append [7, 7, 7, 7, 7, 7, 7, 7, 7, 7, 7, 7, 7, 7, 7, 7, 7, 7, 7, 7, 7, 7, 7, 7, 7, 7, 7, 7, 7, 7, 7, 7, 7, 7, 7, 7, 7, 7, 7, 7, 7, 7, 7, 7, 7, 7, 7, 7, 7, 7, 7, 7, 7, 7, 7, 7, 7, 7, 7, 7, 7, 7, 7, 7]).append (([8, 8, 8, 8, 8, 8, 8, 8, 8, 8, 8, 8, 8, 8, 8, 8, 8, 8, 8, 8, 8, 8, 8, 8, 8, 8, 8, 8, 8, 8, 8, 8, 8, 8, 8, 8, 8, 8, 8, 8, 8, 8, 8, 8, 8, 8, 8, 8, 8, 8, 8, 8, 8, 8, 8, 8, 8, 8, 8, 8, 8, 8, 8, 8] : List UInt8).append [8, 8, 8, 8, 8, 8, 8, 8, 8, 8, 8, 8, 8, 8, 8, 8, 8, 8, 8, 8, 8, 8, 8, 8, 8, 8, 8, 8, 8, 8, 8, 8, 8, 8, 8, 8, 8, 8, 8, 8, 8, 8, 8, 8, 8, 8, 8, 8, 8, 8, 8, 8, 8, 8, 8, 8, 8, 8, 8, 8, 8, 8, 8, 8])).toArray) = Lib.len8tab := rfl
set_option maxRecDepth 1000000 in
set_option maxHeartbeats 1600000 in
theorem len64_000 (x : Nat) (h32 : ¬ ((4294967296 : Int) ≤ (x : Int))) (h16 : ¬ ((65536 : Int) ≤ (x : Int))) (h8 : ¬ ((256 : Int) ≤ (x : Int))) (w : World) :
    Calls Try.prog 37 #[.int .u64 x] w fun e w' => e = .returned (.int .i64 (0 + Lib.len8 ((x : Int)))) ∧ Grew w w' := by
  have hr := len8_bd ((x : Int)) (by omega) (by omega)
  have hr1 := hr.1
  have hr2 := hr.2
  have hm : ((x : Int)) % 256 = (x : Int) := by omega
  have hi : ∀ w, (Instr.index 9 (.string Lib.len8tab) (.int .u8 ((x : Int)))).run Try.prog w = .ok (.int .u8 (Lib.len8 ((x : Int)))) w := fun w => Lib.run_index_len8tab w 9 .u8 _ Try.underlying9 (by omega) (by omega)
  clear hr
  go_enter Try.func37, Try.ntmps37
  rw [fold_len8]
  go_wp2
  go_ret
  refine ⟨congrArg Ending.returned (congrArg (Value.int IntKind.i64) ?_), Grew.refl _⟩
  first | rfl | (simp; done) | trace_state
set_option maxRecDepth 1000000 in
set_option maxHeartbeats 1600000 in
theorem len64_001 (x : Nat) (h32 : ¬ ((4294967296 : Int) ≤ (x : Int))) (h16 : ¬ ((65536 : Int) ≤ (x : Int))) (h8 : (256 : Int) ≤ (x : Int)) (w : World) :
    Calls Try.prog 37 #[.int .u64 x] w fun e w' => e = .returned (.int .i64 (8 + Lib.len8 ((x : Int) / 256))) ∧ Grew w w' := by
  have hr := len8_bd ((x : Int) / 256) (by omega) (by omega)
  have hr1 := hr.1
  have hr2 := hr.2
  have hm : ((x : Int) / 256) % 256 = (x : Int) / 256 := by omega
  have hi : ∀ w, (Instr.index 9 (.string Lib.len8tab) (.int .u8 ((x : Int) / 256))).run Try.prog w = .ok (.int .u8 (Lib.len8 ((x : Int) / 256))) w := fun w => Lib.run_index_len8tab w 9 .u8 _ Try.underlying9 (by omega) (by omega)
  clear hr
  go_enter Try.func37, Try.ntmps37
  rw [fold_len8]
  go_wp2
  go_ret
  refine ⟨congrArg Ending.returned (congrArg (Value.int IntKind.i64) ?_), Grew.refl _⟩
  first | rfl | (simp; done) | trace_state
set_option maxRecDepth 1000000 in
set_option maxHeartbeats 1600000 in
theorem len64_010 (x : Nat) (h32 : ¬ ((4294967296 : Int) ≤ (x : Int))) (h16 : (65536 : Int) ≤ (x : Int)) (h8 : ¬ ((256 : Int) ≤ (x : Int) / 65536)) (w : World) :
    Calls Try.prog 37 #[.int .u64 x] w fun e w' => e = .returned (.int .i64 (16 + Lib.len8 ((x : Int) / 65536))) ∧ Grew w w' := by
  have hr := len8_bd ((x : Int) / 65536) (by omega) (by omega)
  have hr1 := hr.1
  have hr2 := hr.2
  have hm : ((x : Int) / 65536) % 256 = (x : Int) / 65536 := by omega
  have hi : ∀ w, (Instr.index 9 (.string Lib.len8tab) (.int .u8 ((x : Int) / 65536))).run Try.prog w = .ok (.int .u8 (Lib.len8 ((x : Int) / 65536))) w := fun w => Lib.run_index_len8tab w 9 .u8 _ Try.underlying9 (by omega) (by omega)
  clear hr
  go_enter Try.func37, Try.ntmps37
  rw [fold_len8]
  go_wp2
  go_ret
  refine ⟨congrArg Ending.returned (congrArg (Value.int IntKind.i64) ?_), Grew.refl _⟩
  first | rfl | (simp; done) | trace_state
set_option maxRecDepth 1000000 in
set_option maxHeartbeats 1600000 in
theorem len64_011 (x : Nat) (h32 : ¬ ((4294967296 : Int) ≤ (x : Int))) (h16 : (65536 : Int) ≤ (x : Int)) (h8 : (256 : Int) ≤ (x : Int) / 65536) (w : World) :
    Calls Try.prog 37 #[.int .u64 x] w fun e w' => e = .returned (.int .i64 (24 + Lib.len8 ((x : Int) / 65536 / 256))) ∧ Grew w w' := by
  have hr := len8_bd ((x : Int) / 65536 / 256) (by omega) (by omega)
  have hr1 := hr.1
  have hr2 := hr.2
  have hm : ((x : Int) / 65536 / 256) % 256 = (x : Int) / 65536 / 256 := by omega
  have hi : ∀ w, (Instr.index 9 (.string Lib.len8tab) (.int .u8 ((x : Int) / 65536 / 256))).run Try.prog w = .ok (.int .u8 (Lib.len8 ((x : Int) / 65536 / 256))) w := fun w => Lib.run_index_len8tab w 9 .u8 _ Try.underlying9 (by omega) (by omega)
  clear hr
  go_enter Try.func37, Try.ntmps37
  rw [fold_len8]
  go_wp2
  go_ret
  refine ⟨congrArg Ending.returned (congrArg (Value.int IntKind.i64) ?_), Grew.refl _⟩
  first | rfl | (simp; done) | trace_state
set_option maxRecDepth 1000000 in
set_option maxHeartbeats 1600000 in
theorem len64_100 (x : Nat) (h32 : (4294967296 : Int) ≤ (x : Int)) (h16 : ¬ ((65536 : Int) ≤ (x : Int) / 4294967296)) (h8 : ¬ ((256 : Int) ≤ (x : Int) / 4294967296)) (w : World) :
    Calls Try.prog 37 #[.int .u64 x] w fun e w' => e = .returned (.int .i64 (32 + Lib.len8 ((x : Int) / 4294967296))) ∧ Grew w w' := by
  have hr := len8_bd ((x : Int) / 4294967296) (by omega) (by omega)
  have hr1 := hr.1
  have hr2 := hr.2
  have hm : ((x : Int) / 4294967296) % 256 = (x : Int) / 4294967296 := by omega
  have hi : ∀ w, (Instr.index 9 (.string Lib.len8tab) (.int .u8 ((x : Int) / 4294967296))).run Try.prog w = .ok (.int .u8 (Lib.len8 ((x : Int) / 4294967296))) w := fun w => Lib.run_index_len8tab w 9 .u8 _ Try.underlying9 (by omega) (by omega)
  clear hr
  go_enter Try.func37, Try.ntmps37
  rw [fold_len8]
  go_wp2
  go_ret
  refine ⟨congrArg Ending.returned (congrArg (Value.int IntKind.i64) ?_), Grew.refl _⟩
  first | rfl | (simp; done) | trace_state
set_option maxRecDepth 1000000 in
set_option maxHeartbeats 1600000 in
theorem len64_101 (x : Nat) (h32 : (4294967296 : Int) ≤ (x : Int)) (h16 : ¬ ((65536 : Int) ≤ (x : Int) / 4294967296)) (h8 : (256 : Int) ≤ (x : Int) / 4294967296) (w : World) :
    Calls Try.prog 37 #[.int .u64 x] w fun e w' => e = .returned (.int .i64 (40 + Lib.len8 ((x : Int) / 4294967296 / 256))) ∧ Grew w w' := by
  have hr := len8_bd ((x : Int) / 4294967296 / 256) (by omega) (by omega)
  have hr1 := hr.1
  have hr2 := hr.2
  have hm : ((x : Int) / 4294967296 / 256) % 256 = (x : Int) / 4294967296 / 256 := by omega
  have hi : ∀ w, (Instr.index 9 (.string Lib.len8tab) (.int .u8 ((x : Int) / 4294967296 / 256))).run Try.prog w = .ok (.int .u8 (Lib.len8 ((x : Int) / 4294967296 / 256))) w := fun w => Lib.run_index_len8tab w 9 .u8 _ Try.underlying9 (by omega) (by omega)
  clear hr
  go_enter Try.func37, Try.ntmps37
  rw [fold_len8]
  go_wp2
  go_ret
  refine ⟨congrArg Ending.returned (congrArg (Value.int IntKind.i64) ?_), Grew.refl _⟩
  first | rfl | (simp; done) | trace_state
set_option maxRecDepth 1000000 in
set_option maxHeartbeats 1600000 in
theorem len64_110 (x : Nat) (h32 : (4294967296 : Int) ≤ (x : Int)) (h16 : (65536 : Int) ≤ (x : Int) / 4294967296) (h8 : ¬ ((256 : Int) ≤ (x : Int) / 4294967296 / 65536)) (w : World) :
    Calls Try.prog 37 #[.int .u64 x] w fun e w' => e = .returned (.int .i64 (48 + Lib.len8 ((x : Int) / 4294967296 / 65536))) ∧ Grew w w' := by
  have hr := len8_bd ((x : Int) / 4294967296 / 65536) (by omega) (by omega)
  have hr1 := hr.1
  have hr2 := hr.2
  have hm : ((x : Int) / 4294967296 / 65536) % 256 = (x : Int) / 4294967296 / 65536 := by omega
  have hi : ∀ w, (Instr.index 9 (.string Lib.len8tab) (.int .u8 ((x : Int) / 4294967296 / 65536))).run Try.prog w = .ok (.int .u8 (Lib.len8 ((x : Int) / 4294967296 / 65536))) w := fun w => Lib.run_index_len8tab w 9 .u8 _ Try.underlying9 (by omega) (by omega)
  clear hr
  go_enter Try.func37, Try.ntmps37
  rw [fold_len8]
  go_wp2
  go_ret
  refine ⟨congrArg Ending.returned (congrArg (Value.int IntKind.i64) ?_), Grew.refl _⟩
  first | rfl | (simp; done) | trace_state
set_option maxRecDepth 1000000 in
set_option maxHeartbeats 1600000 in
theorem len64_111 (x : Nat) (hx : x < 18446744073709551616) (h32 : (4294967296 : Int) ≤ (x : Int)) (h16 : (65536 : Int) ≤ (x : Int) / 4294967296) (h8 : (256 : Int) ≤ (x : Int) / 4294967296 / 65536) (w : World) :
    Calls Try.prog 37 #[.int .u64 x] w fun e w' => e = .returned (.int .i64 (56 + Lib.len8 ((x : Int) / 4294967296 / 65536 / 256))) ∧ Grew w w' := by
  have hr := len8_bd ((x : Int) / 4294967296 / 65536 / 256) (by omega) (by omega)
  have hr1 := hr.1
  have hr2 := hr.2
  have hm : ((x : Int) / 4294967296 / 65536 / 256) % 256 = (x : Int) / 4294967296 / 65536 / 256 := by omega
  have hi : ∀ w, (Instr.index 9 (.string Lib.len8tab) (.int .u8 ((x : Int) / 4294967296 / 65536 / 256))).run Try.prog w = .ok (.int .u8 (Lib.len8 ((x : Int) / 4294967296 / 65536 / 256))) w := fun w => Lib.run_index_len8tab w 9 .u8 _ Try.underlying9 (by omega) (by omega)
  clear hr hx
  go_enter Try.func37, Try.ntmps37
  rw [fold_len8]
  go_wp2
  go_ret
  refine ⟨congrArg Ending.returned (congrArg (Value.int IntKind.i64) ?_), Grew.refl _⟩
  first | rfl | (simp; done) | trace_state

theorem len64_any (x : Nat) (hx : x < 18446744073709551616) (w : World) :
    Calls Try.prog 37 #[.int .u64 x] w fun e w' => e = .returned (.int .i64 (Lib.bitLen x)) ∧ Grew w w' := by
  by_cases h32 : (4294967296 : Int) ≤ (x : Int)
  · by_cases h16 : (65536 : Int) ≤ (x : Int) / 4294967296
    · by_cases h8 : (256 : Int) ≤ (x : Int) / 4294967296 / 65536
      · refine (len64_111 x hx h32 h16 h8 w).mono fun e w' ⟨he, hw⟩ => ⟨he.trans ?_, hw⟩
        rw [Lib.len8_of _ (by omega) (by omega)]
        have e : ((x : Int) / 4294967296 / 65536 / 256).toNat = x / 72057594037927936 := by omega
        have sh := Lib.bitLen_shift56 x (by omega) hx
        rw [e]
        rw [sh]; rfl
      · refine (len64_110 x h32 h16 h8 w).mono fun e w' ⟨he, hw⟩ => ⟨he.trans ?_, hw⟩
        rw [Lib.len8_of _ (by omega) (by omega)]
        have e : ((x : Int) / 4294967296 / 65536).toNat = x / 281474976710656 := by omega
        have sh := Lib.bitLen_shift48 x (by omega) hx
        rw [e]
        rw [sh]; rfl
    · by_cases h8 : (256 : Int) ≤ (x : Int) / 4294967296
      · refine (len64_101 x h32 h16 h8 w).mono fun e w' ⟨he, hw⟩ => ⟨he.trans ?_, hw⟩
        rw [Lib.len8_of _ (by omega) (by omega)]
        have e : ((x : Int) / 4294967296 / 256).toNat = x / 1099511627776 := by omega
        have sh := Lib.bitLen_shift40 x (by omega) hx
        rw [e]
        rw [sh]; rfl
      · refine (len64_100 x h32 h16 h8 w).mono fun e w' ⟨he, hw⟩ => ⟨he.trans ?_, hw⟩
        rw [Lib.len8_of _ (by omega) (by omega)]
        have e : ((x : Int) / 4294967296).toNat = x / 4294967296 := by omega
        have sh := Lib.bitLen_shift32 x (by omega) hx
        rw [e]
        rw [sh]; rfl
  · by_cases h16 : (65536 : Int) ≤ (x : Int)
    · by_cases h8 : (256 : Int) ≤ (x : Int) / 65536
      · refine (len64_011 x h32 h16 h8 w).mono fun e w' ⟨he, hw⟩ => ⟨he.trans ?_, hw⟩
        rw [Lib.len8_of _ (by omega) (by omega)]
        have e : ((x : Int) / 65536 / 256).toNat = x / 16777216 := by omega
        have sh := Lib.bitLen_shift24 x (by omega) hx
        rw [e]
        rw [sh]; rfl
      · refine (len64_010 x h32 h16 h8 w).mono fun e w' ⟨he, hw⟩ => ⟨he.trans ?_, hw⟩
        rw [Lib.len8_of _ (by omega) (by omega)]
        have e : ((x : Int) / 65536).toNat = x / 65536 := by omega
        have sh := Lib.bitLen_shift16 x (by omega) hx
        rw [e]
        rw [sh]; rfl
    · by_cases h8 : (256 : Int) ≤ (x : Int)
      · refine (len64_001 x h32 h16 h8 w).mono fun e w' ⟨he, hw⟩ => ⟨he.trans ?_, hw⟩
        rw [Lib.len8_of _ (by omega) (by omega)]
        have e : ((x : Int) / 256).toNat = x / 256 := by omega
        have sh := Lib.bitLen_shift8 x (by omega) hx
        rw [e]
        rw [sh]; rfl
      · refine (len64_000 x h32 h16 h8 w).mono fun e w' ⟨he, hw⟩ => ⟨he.trans ?_, hw⟩
        rw [Lib.len8_of _ (by omega) (by omega)]
        have e : ((x : Int)).toNat = x := by omega
        rw [e]
        exact congrArg Ending.returned (congrArg (Value.int IntKind.i64) (Int.zero_add _))
end Go.Proofs.Ytcoclcbclbjdaaa
