/- Words of 32 bits, and sha's right. -/
import Derived.Test.YtmnnmndnpkanlaaRows
import Derived.Test.YtmnnmndnpkanlaaBase
namespace Go.Proofs.Ytmnnmndnpkanlaa
set_option linter.unusedVariables false
set_option linter.unusedSimpArgs false
open Go.RowKit

/-- A word as an int: nothing opens it. -/
def u (x : BitVec 32) : Int := (x.toNat : Int)
theorem u_bd (x : BitVec 32) : 0 ≤ u x ∧ u x < 4294967296 := by unfold u; have := x.isLt; omega
theorem bv_u (x : BitVec 32) : BitVec.ofInt 32 (u x) = x := by
  unfold u
  apply BitVec.eq_of_toNat_eq
  rw [BitVec.ofInt_natCast, BitVec.toNat_ofNat]
  exact Nat.mod_eq_of_lt x.isLt
theorem wrap_u (x : BitVec 32) : IntKind.u32.wrap (u x) = u x := by
  have := u_bd x
  show (u x) % 4294967296 = _
  omega
attribute [go_sem] wrap_u
@[go_sem] theorem bits_xor_u (x y : BitVec 32) : bits .xor .u32 (u x) (u y) = u (x ^^^ y) := by
  show IntKind.u32.wrap ((BitVec.ofInt 32 (u x) ^^^ BitVec.ofInt 32 (u y)).toNat : Int) = _
  rw [bv_u, bv_u]; exact wrap_u _
@[go_sem] theorem bits_and_u (x y : BitVec 32) : bits .and .u32 (u x) (u y) = u (x &&& y) := by
  show IntKind.u32.wrap ((BitVec.ofInt 32 (u x) &&& BitVec.ofInt 32 (u y)).toNat : Int) = _
  rw [bv_u, bv_u]; exact wrap_u _
@[go_sem] theorem bits_or_u (x y : BitVec 32) : bits .or .u32 (u x) (u y) = u (x ||| y) := by
  show IntKind.u32.wrap ((BitVec.ofInt 32 (u x) ||| BitVec.ofInt 32 (u y)).toNat : Int) = _
  rw [bv_u, bv_u]; exact wrap_u _
@[go_sem] theorem bits_not_u (x : BitVec 32) : bits .xor .u32 IntKind.u32.max (u x) = u (~~~ x) := by
  show IntKind.u32.wrap ((BitVec.ofInt 32 IntKind.u32.max ^^^ BitVec.ofInt 32 (u x)).toNat : Int) = _
  rw [bv_u, show BitVec.ofInt 32 IntKind.u32.max = BitVec.allOnes 32 from rfl, BitVec.allOnes_xor]; exact wrap_u _
@[go_sem] theorem wrap_add_u (x y : BitVec 32) : IntKind.u32.wrap (u x + u y) = u (x + y) := by
  unfold u
  rw [BitVec.toNat_add]
  show ((x.toNat : Int) + (y.toNat : Int)) % 4294967296 = _
  omega
theorem u_div (x : BitVec 32) (k : Nat) : u x / 2 ^ k = u (x >>> k) := by
  unfold u
  rw [BitVec.toNat_ushiftRight, Nat.shiftRight_eq_div_pow, Int.natCast_ediv, Int.natCast_pow]; rfl
theorem u_mul (x : BitVec 32) (k : Nat) : IntKind.u32.wrap (u x * 2 ^ k) = u (x <<< k) := by
  unfold u
  rw [BitVec.toNat_shiftLeft, Nat.shiftLeft_eq]
  show ((x.toNat : Int) * 2 ^ k) % 4294967296 = _
  rw [Int.natCast_emod, Int.natCast_mul, Int.natCast_pow]; rfl
theorem rot_u (x : BitVec 32) (s : Nat) (h : s < 32) : bits .or .u32 (IntKind.u32.wrap (u x * 2 ^ s)) (u x / 2 ^ (32 - s)) = u (x.rotateLeft s) := by
  rw [u_mul, u_div, bits_or_u]
  congr 1
  rw [BitVec.rotateLeft_def, Nat.mod_eq_of_lt h]
/-- The word, turned to the right. -/
def rr (n : Nat) (x : BitVec 32) : BitVec 32 := x.rotateLeft (32 - n)
def rotOk (n : Nat) : Prop := n = 2 ∨ n = 6 ∨ n = 7 ∨ n = 11 ∨ n = 13 ∨ n = 17 ∨ n = 18 ∨ n = 19 ∨ n = 22 ∨ n = 25

set_option maxRecDepth 100000 in
set_option maxHeartbeats 1600000 in
theorem rotl_w (x : BitVec 32) (n : Nat) (hn : rotOk n) (w : World) :
    Calls Try.prog 31 #[.int .u32 (u x), .int .i64 (-(n : Int))] w fun e w' => e = .returned (.int .u32 (u (rr n x))) ∧ Grew w w' := by
  have hr := fun s h => rot_u x s h
  have b0 := (u_bd x).1
  rcases hn with rfl | rfl | rfl | rfl | rfl | rfl | rfl | rfl | rfl | rfl
  · have h := hr 30 (by omega)
    have hs : bits .and .u64 (IntKind.u64.wrap (-2)) 31 = 30 := by decide +kernel
    have hs2 : bits .and .u64 (IntKind.u64.wrap (-(((2 : Nat) : Int)))) 31 = 30 := by decide +kernel
    simp only [Nat.reduceSub] at h
    clear hr
    go_enter Try.func31, Try.ntmps31
    go_wp2
    go_ret
    exact ⟨congrArg (fun n : Int => Ending.returned (.int .u32 n)) h, (by repeat (first | with_reducible exact Grew.refl _ | with_reducible apply Grew.alloc | with_reducible apply Grew.grow | with_reducible apply Grew.drew | with_reducible apply Grew.drewN))⟩
  · have h := hr 26 (by omega)
    have hs : bits .and .u64 (IntKind.u64.wrap (-6)) 31 = 26 := by decide +kernel
    have hs2 : bits .and .u64 (IntKind.u64.wrap (-(((6 : Nat) : Int)))) 31 = 26 := by decide +kernel
    simp only [Nat.reduceSub] at h
    clear hr
    go_enter Try.func31, Try.ntmps31
    go_wp2
    go_ret
    exact ⟨congrArg (fun n : Int => Ending.returned (.int .u32 n)) h, (by repeat (first | with_reducible exact Grew.refl _ | with_reducible apply Grew.alloc | with_reducible apply Grew.grow | with_reducible apply Grew.drew | with_reducible apply Grew.drewN))⟩
  · have h := hr 25 (by omega)
    have hs : bits .and .u64 (IntKind.u64.wrap (-7)) 31 = 25 := by decide +kernel
    have hs2 : bits .and .u64 (IntKind.u64.wrap (-(((7 : Nat) : Int)))) 31 = 25 := by decide +kernel
    simp only [Nat.reduceSub] at h
    clear hr
    go_enter Try.func31, Try.ntmps31
    go_wp2
    go_ret
    exact ⟨congrArg (fun n : Int => Ending.returned (.int .u32 n)) h, (by repeat (first | with_reducible exact Grew.refl _ | with_reducible apply Grew.alloc | with_reducible apply Grew.grow | with_reducible apply Grew.drew | with_reducible apply Grew.drewN))⟩
  · have h := hr 21 (by omega)
    have hs : bits .and .u64 (IntKind.u64.wrap (-11)) 31 = 21 := by decide +kernel
    have hs2 : bits .and .u64 (IntKind.u64.wrap (-(((11 : Nat) : Int)))) 31 = 21 := by decide +kernel
    simp only [Nat.reduceSub] at h
    clear hr
    go_enter Try.func31, Try.ntmps31
    go_wp2
    go_ret
    exact ⟨congrArg (fun n : Int => Ending.returned (.int .u32 n)) h, (by repeat (first | with_reducible exact Grew.refl _ | with_reducible apply Grew.alloc | with_reducible apply Grew.grow | with_reducible apply Grew.drew | with_reducible apply Grew.drewN))⟩
  · have h := hr 19 (by omega)
    have hs : bits .and .u64 (IntKind.u64.wrap (-13)) 31 = 19 := by decide +kernel
    have hs2 : bits .and .u64 (IntKind.u64.wrap (-(((13 : Nat) : Int)))) 31 = 19 := by decide +kernel
    simp only [Nat.reduceSub] at h
    clear hr
    go_enter Try.func31, Try.ntmps31
    go_wp2
    go_ret
    exact ⟨congrArg (fun n : Int => Ending.returned (.int .u32 n)) h, (by repeat (first | with_reducible exact Grew.refl _ | with_reducible apply Grew.alloc | with_reducible apply Grew.grow | with_reducible apply Grew.drew | with_reducible apply Grew.drewN))⟩
  · have h := hr 15 (by omega)
    have hs : bits .and .u64 (IntKind.u64.wrap (-17)) 31 = 15 := by decide +kernel
    have hs2 : bits .and .u64 (IntKind.u64.wrap (-(((17 : Nat) : Int)))) 31 = 15 := by decide +kernel
    simp only [Nat.reduceSub] at h
    clear hr
    go_enter Try.func31, Try.ntmps31
    go_wp2
    go_ret
    exact ⟨congrArg (fun n : Int => Ending.returned (.int .u32 n)) h, (by repeat (first | with_reducible exact Grew.refl _ | with_reducible apply Grew.alloc | with_reducible apply Grew.grow | with_reducible apply Grew.drew | with_reducible apply Grew.drewN))⟩
  · have h := hr 14 (by omega)
    have hs : bits .and .u64 (IntKind.u64.wrap (-18)) 31 = 14 := by decide +kernel
    have hs2 : bits .and .u64 (IntKind.u64.wrap (-(((18 : Nat) : Int)))) 31 = 14 := by decide +kernel
    simp only [Nat.reduceSub] at h
    clear hr
    go_enter Try.func31, Try.ntmps31
    go_wp2
    go_ret
    exact ⟨congrArg (fun n : Int => Ending.returned (.int .u32 n)) h, (by repeat (first | with_reducible exact Grew.refl _ | with_reducible apply Grew.alloc | with_reducible apply Grew.grow | with_reducible apply Grew.drew | with_reducible apply Grew.drewN))⟩
  · have h := hr 13 (by omega)
    have hs : bits .and .u64 (IntKind.u64.wrap (-19)) 31 = 13 := by decide +kernel
    have hs2 : bits .and .u64 (IntKind.u64.wrap (-(((19 : Nat) : Int)))) 31 = 13 := by decide +kernel
    simp only [Nat.reduceSub] at h
    clear hr
    go_enter Try.func31, Try.ntmps31
    go_wp2
    go_ret
    exact ⟨congrArg (fun n : Int => Ending.returned (.int .u32 n)) h, (by repeat (first | with_reducible exact Grew.refl _ | with_reducible apply Grew.alloc | with_reducible apply Grew.grow | with_reducible apply Grew.drew | with_reducible apply Grew.drewN))⟩
  · have h := hr 10 (by omega)
    have hs : bits .and .u64 (IntKind.u64.wrap (-22)) 31 = 10 := by decide +kernel
    have hs2 : bits .and .u64 (IntKind.u64.wrap (-(((22 : Nat) : Int)))) 31 = 10 := by decide +kernel
    simp only [Nat.reduceSub] at h
    clear hr
    go_enter Try.func31, Try.ntmps31
    go_wp2
    go_ret
    exact ⟨congrArg (fun n : Int => Ending.returned (.int .u32 n)) h, (by repeat (first | with_reducible exact Grew.refl _ | with_reducible apply Grew.alloc | with_reducible apply Grew.grow | with_reducible apply Grew.drew | with_reducible apply Grew.drewN))⟩
  · have h := hr 7 (by omega)
    have hs : bits .and .u64 (IntKind.u64.wrap (-25)) 31 = 7 := by decide +kernel
    have hs2 : bits .and .u64 (IntKind.u64.wrap (-(((25 : Nat) : Int)))) 31 = 7 := by decide +kernel
    simp only [Nat.reduceSub] at h
    clear hr
    go_enter Try.func31, Try.ntmps31
    go_wp2
    go_ret
    exact ⟨congrArg (fun n : Int => Ending.returned (.int .u32 n)) h, (by repeat (first | with_reducible exact Grew.refl _ | with_reducible apply Grew.alloc | with_reducible apply Grew.grow | with_reducible apply Grew.drew | with_reducible apply Grew.drewN))⟩
set_option maxRecDepth 100000 in
set_option maxHeartbeats 1600000 in
theorem right_w (x : BitVec 32) (n : Nat) (hn : rotOk n) (w : World) :
    Calls Try.prog 26 #[.int .u32 (u x), .int .i64 (n : Int)] w fun e w' => e = .returned (.int .u32 (u (rr n x))) ∧ Grew w w' := by
  have hb : n ≤ 25 := by unfold rotOk at hn; omega
  have Hc := Lib.hid (fun w => rotl_w x n hn w)
  clear hn
  go_enter Try.func26, Try.ntmps26
  go_wp2_with (go_at_call 31; refine (Hc.out _).mono ?_; rintro e w' ⟨rfl, δ, rfl⟩)
  go_ret
  exact ⟨rfl, (by repeat (first | with_reducible exact Grew.refl _ | with_reducible apply Grew.alloc | with_reducible apply Grew.grow | with_reducible apply Grew.drew | with_reducible apply Grew.drewN))⟩
end Go.Proofs.Ytmnnmndnpkanlaa
