/- The document's pow, turn and numbers. -/
import Derived.Test.YtmnnmndnpkanlaaSha3a
import Derived.Test.YtmnnmndnpkanlaaPad
import Derived.Test.YtmnnmndnpkanlaaFlow
namespace Go.Proofs.Ytmnnmndnpkanlaa
set_option linter.unusedVariables false
set_option linter.unusedSimpArgs false
open Go.RowKit
/-- The cells of words. -/
def wsl (l : List (BitVec 32)) : List Value := l.map fun x => Value.int .u32 (u x)
theorem wsl_len (l : List (BitVec 32)) : (wsl l).length = l.length := by simp [wsl]
theorem wsl_append (l m : List (BitVec 32)) : wsl (l ++ m) = wsl l ++ wsl m := by simp [wsl]
theorem wsl_one (l : List (BitVec 32)) : ∀ x ∈ wsl l, x.oneCell' = true := by
  intro x hx
  obtain ⟨c, _, rfl⟩ := List.mem_map.1 hx
  rfl
theorem wsl_at (l : List (BitVec 32)) (i : Nat) (h : i < (wsl l).length) : (wsl l)[i] = .int .u32 (u (wordAt l i)) := by
  rw [wordAt_eq l i (by rwa [wsl_len] at h)]; simp [wsl]
theorem under_ws : Try.prog.underlying 46 = some (.slice 39) := by kernel_rfl
theorem info_w : ∃ i, Try.prog.info? 39 = some i ∧ i.zero = some (.int .u32 0) ∧ i.size = 1 ∧ i.bytes = 4 := by
  refine ⟨_, rfl, ?_, ?_, ?_⟩ <;> kernel_rfl
set_option maxRecDepth 100000 in
set_option maxHeartbeats 1600000 in
theorem rpow_w (n : Nat) (hn : n < 32) (w : World) :
    Calls Try.prog 32 #[.int .i64 (n : Int)] w fun e w' => e = .returned (.int .u32 ((2 ^ n : Nat) : Int)) ∧ Grew w w' := by
  go_enter Try.func32, Try.ntmps32
  go_wp2
  go_loopw [4, 3] (fun i p wr => ∃ k : Nat, k ≤ n ∧ i = .int .i64 k ∧ p = .int .u32 ((2 ^ k : Nat) : Int) ∧ wr = w) (fun i _ _ => n - (intOf i).toNat)
  case atStart => exact ⟨0, by omega, rfl, rfl, rfl⟩
  case round =>
    obtain ⟨k, hk, rfl, rfl, rfl⟩ := hrel
    by_cases h : k < n
    · have hlt : (k : Int) < (n : Int) := by omega
      have hp : 2 ^ (k + 1) ≤ 2 ^ 31 := Nat.pow_le_pow_right (by omega) (by omega)
      have hs : 2 ^ (k + 1) = 2 * 2 ^ k := by rw [Nat.pow_succ]; omega
      obtain ⟨a, ha⟩ : ∃ a, 2 ^ k = a := ⟨_, rfl⟩
      rw [ha] at hs ⊢
      have e6 : IntKind.u32.wrap (2 * (a : Int)) = ((2 ^ (k + 1) : Nat) : Int) := by
        rw [hs] at hp ⊢
        show (2 * (a : Int)) % 4294967296 = _
        omega
      clear hk h hp hs ha
      go_wp2
      exact ⟨⟨k + 1, by omega, by go_num, rfl, trivial⟩, by simp only [intOf]; omega⟩
    · obtain rfl : k = n := by omega
      have hge : ¬ ((k : Int) < (k : Int)) := by omega
      clear hk h hn
      go_wp2
      go_ret
      exact ⟨rfl, Grew.refl _⟩
theorem turn_u (x : BitVec 32) (n : Nat) (h1 : 1 ≤ n) (h2 : n < 32) : IntKind.u32.wrap (u x / ((2 ^ n : Nat) : Int) + IntKind.u32.wrap (u x * ((2 ^ (32 - n) : Nat) : Int))) = u (rr n x) := by
  have hr := rot_u x (32 - n) (by omega)
  rw [show 32 - (32 - n) = n by omega] at hr
  rw [Int.natCast_pow, Int.natCast_pow]
  show IntKind.u32.wrap (u x / 2 ^ n + IntKind.u32.wrap (u x * 2 ^ (32 - n))) = u (x.rotateLeft (32 - n))
  rw [← hr]
  have hx := u_bd x
  obtain ⟨a, ha⟩ : ∃ a : Nat, u x = a := ⟨x.toNat, rfl⟩
  rw [ha] at hx ⊢
  have e1 : IntKind.u32.wrap ((a : Int) * 2 ^ (32 - n)) = ((a % 2 ^ n * 2 ^ (32 - n) : Nat) : Int) := by
    show ((a : Int) * 2 ^ (32 - n)) % 4294967296 = _
    have hpp : 2 ^ n * 2 ^ (32 - n) = 4294967296 := by rw [← Nat.pow_add, show n + (32 - n) = 32 by omega]
    have hm : (a * 2 ^ (32 - n)) % (2 ^ n * 2 ^ (32 - n)) = a % 2 ^ n * 2 ^ (32 - n) := Nat.mul_mod_mul_right _ _ _
    rw [hpp] at hm
    rw [← hm, Int.natCast_emod, Int.natCast_mul, Int.natCast_pow]
    rfl
  have e2 : (a : Int) / 2 ^ n = ((a / 2 ^ n : Nat) : Int) := by rw [Int.natCast_ediv, Int.natCast_pow]; rfl
  have hpp : 2 ^ n * 2 ^ (32 - n) = 4294967296 := by rw [← Nat.pow_add, show n + (32 - n) = 32 by omega]
  have hq1 : a / 2 ^ n < 2 ^ (32 - n) := by
    rw [Nat.div_lt_iff_lt_mul (Nat.pow_pos (by omega)), Nat.mul_comm, hpp]; omega
  have hq2 : a % 2 ^ n * 2 ^ (32 - n) + 2 ^ (32 - n) ≤ 4294967296 := by
    have := Nat.mul_le_mul_right (2 ^ (32 - n)) (show a % 2 ^ n + 1 ≤ 2 ^ n from Nat.mod_lt _ (Nat.pow_pos (by omega)))
    rw [hpp, Nat.add_mul, Nat.one_mul] at this
    exact this
  rw [e1, e2]
  have hor := or_add (a % 2 ^ n) (a / 2 ^ n) (32 - n) hq1
  obtain ⟨p, hp⟩ : ∃ p, a % 2 ^ n * 2 ^ (32 - n) = p := ⟨_, rfl⟩
  obtain ⟨q, hq⟩ : ∃ q, a / 2 ^ n = q := ⟨_, rfl⟩
  obtain ⟨r, hr2⟩ : ∃ r, 2 ^ (32 - n) = r := ⟨_, rfl⟩
  rw [hp, hq] at hor
  rw [hp, hq]
  rw [hp, hr2] at hq2
  rw [hq, hr2] at hq1
  have hr3 : 0 < r := by rw [← hr2]; exact Nat.pow_pos (by omega)
  have hr4 : r ≤ 4294967296 := by omega
  rw [or_u32_nat _ _ (by omega) (by omega), hor]
  show ((q : Int) + (p : Int)) % 4294967296 = _
  omega
set_option maxRecDepth 100000 in
set_option maxHeartbeats 1600000 in
theorem rturn_w (x : BitVec 32) (n : Nat) (h1 : 1 ≤ n) (h2 : n < 32) (w : World) :
    Calls Try.prog 29 #[.int .u32 (u x), .int .i64 (n : Int)] w fun e w' => e = .returned (.int .u32 (u (rr n x))) ∧ Grew w w' := by
  have ht := turn_u x n h1 h2
  have hc : (32 : Int) - (n : Int) = ((32 - n : Nat) : Int) := by omega
  have p1 := fun w => rpow_w n h2 w
  have p2 := fun w => rpow_w (32 - n) (by omega) w
  obtain ⟨a, ha⟩ : ∃ a : Nat, 2 ^ n = a := ⟨_, rfl⟩
  obtain ⟨b, hb⟩ : ∃ b : Nat, 2 ^ (32 - n) = b := ⟨_, rfl⟩
  obtain ⟨m, hm⟩ : ∃ m : Nat, 32 - n = m := ⟨_, rfl⟩
  have ha1 : 1 ≤ a := by rw [← ha]; exact Nat.one_le_two_pow
  have ha2 : (a : Int) ≠ 0 := by omega
  have ha3 : 1 ≤ (a : Int) := by omega
  have hx := u_bd x
  have hx1 := hx.1
  have hx2 : u x ≤ 4294967295 := by omega
  rw [hm] at hc p2
  rw [ha] at p1 ht
  rw [hm] at hb
  rw [hm, hb] at ht
  rw [hb] at p2
  have ht' : (u x / (a : Int) + u x * (b : Int) % 4294967296) % 4294967296 = u (rr n x) := ht
  have P1 := Lib.hid p1
  have P2 := Lib.hid p2
  clear p1 p2 ha hb hm h1 h2 hx ha1 ht
  go_enter Try.func29, Try.ntmps29
  go_wp2
  refine wp_region_flow (by kernel_rfl) ?_
  intro δf
  apply wpFlow_quiets [0,1,2,3,4,5,6] (by decide +kernel) (by decide +kernel) (by kernel_rfl) (by intro _ _ _ d _ h; cases d <;> exact h) _
  · intro A hA δ'
    simp only [pickOps_cons, pickOps_nil, pick1_zero, pick1_succ]
    repeat (go_big_quiet_step ((go_at_call 32; exact Calls.pure_of_g3 (P1.out _))))
    exact wpQuiet_nil hA.out.symm
  clear P1
  apply wpFlow_quiets [7,8,9,10] (by decide +kernel) (by decide +kernel) (by kernel_rfl) (by intro _ _ _ d _ h; cases d <;> exact h) _
  · intro A hA δ'
    simp only [pickOps_cons, pickOps_nil, pick1_zero, pick1_succ]
    repeat (go_big_quiet_step ((go_at_call 32; exact Calls.pure_of_g3 (P2.out _))))
    exact wpQuiet_nil hA.out.symm
  refine wpFlow_end (by decide +kernel) (by kernel_rfl) ?_
  intro δf
  go_wp2
  go_ret
  exact ⟨congrArg (fun z => Ending.returned (.int .u32 z)) ht', (by repeat (first | with_reducible exact Grew.refl _ | with_reducible apply Grew.alloc | with_reducible apply Grew.grow | with_reducible apply Grew.drew | with_reducible apply Grew.drewN))⟩
theorem rturn_i (x : BitVec 32) (n : Int) (hn : rotI n = true) (w : World) :
    Calls Try.prog 29 #[.int .u32 (u x), .int .i64 n] w fun e w' => e = .returned (.int .u32 (u (rr n.toNat x))) ∧ Grew w w' := by
  have h := of_decide_eq_true hn
  obtain ⟨m, rfl⟩ : ∃ m : Nat, n = m := ⟨n.toNat, by omega⟩
  exact rturn_w x m (by omega) (by omega) w
end Go.Proofs.Ytmnnmndnpkanlaa
