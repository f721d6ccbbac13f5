/- wide's Add, Sub. -/
import Derived.Test.YtcoclcbclbjdaaaRows
import Derived.Test.YtcoclcbclbjdaaaWide1
import Derived.Laws.Externs
namespace Go.Proofs.Ytcoclcbclbjdaaa
set_option linter.unusedVariables false
set_option linter.unusedSimpArgs false
open Go.RowKit

def addEntry : Array Value → Sem Value := fun args => do
  let (x, y, c) ← Extern.MathBitsCarry.three "Add64" args
  pure (Extern.MathBitsCarry.pair ((x + y + c) % Extern.MathBitsCarry.m64) ((x + y + c) / Extern.MathBitsCarry.m64))
def subEntry : Array Value → Sem Value := fun args => do
  let (x, y, b) ← Extern.MathBitsCarry.three "Sub64" args
  pure (Extern.MathBitsCarry.pair ((x + Extern.MathBitsCarry.m64 - y - b) % Extern.MathBitsCarry.m64) (if x < y + b then 1 else 0))
theorem run_addEntry (x y c : Nat) (hc : c ≤ 1) (w : World) :
    (addEntry #[.int .u64 x, .int .u64 y, .int .u64 c]).run Try.prog w = .ok (.tuple #[.int .u64 ((x + y + c) % 18446744073709551616 : Nat), .int .u64 ((x + y + c) / 18446744073709551616 : Nat)]) w := by
  have : c = 0 ∨ c = 1 := by omega
  rcases this with rfl | rfl <;> rfl
theorem run_subEntry (x y c : Nat) (hc : c ≤ 1) (w : World) :
    (subEntry #[.int .u64 x, .int .u64 y, .int .u64 c]).run Try.prog w = .ok (.tuple #[.int .u64 ((x + 18446744073709551616 - y - c) % 18446744073709551616 : Nat), .int .u64 (if x < y + c then 1 else 0 : Nat)]) w := by
  have : c = 0 ∨ c = 1 := by omega
  rcases this with rfl | rfl <;> rfl
theorem call_add64 (x y c : Nat) (hc : c ≤ 1) (w : World) : (callFunc 33 #[.int .u64 x, .int .u64 y, .int .u64 c]).run Try.prog w =
    .ok (.value (.tuple #[.int .u64 ((x + y + c) % 18446744073709551616 : Nat), .int .u64 ((x + y + c) / 18446744073709551616 : Nat)])) w := by
  rw [run_callFunc_extern Try.func33 (by kernel_rfl) (by kernel_rfl) (by kernel_rfl) (e := addEntry) (by kernel_rfl), run_addEntry x y c hc]
  rfl
theorem call_sub64 (x y c : Nat) (hc : c ≤ 1) (w : World) : (callFunc 34 #[.int .u64 x, .int .u64 y, .int .u64 c]).run Try.prog w =
    .ok (.value (.tuple #[.int .u64 ((x + 18446744073709551616 - y - c) % 18446744073709551616 : Nat), .int .u64 (if x < y + c then 1 else 0 : Nat)])) w := by
  rw [run_callFunc_extern Try.func34 (by kernel_rfl) (by kernel_rfl) (by kernel_rfl) (e := subEntry) (by kernel_rfl), run_subEntry x y c hc]
  rfl

/-- What goes into the next part. -/
def cy (x y c : Nat) : Nat := (x + y + c) / 18446744073709551616
def sm (x y c : Nat) : Nat := (x + y + c) % 18446744073709551616
theorem cy_le (x y c : Nat) (hx : x < 18446744073709551616) (hy : y < 18446744073709551616) (hc : c ≤ 1) : cy x y c ≤ 1 := by unfold cy; omega
def cys (x y : Nat) : Nat → Nat
  | 0 => 0
  | i + 1 => cy (lb x i) (lb y i) (cys x y i)
theorem cys_le (x y : Nat) : ∀ i, cys x y i ≤ 1
  | 0 => Nat.zero_le _
  | i + 1 => cy_le _ _ _ (lb_lt _ _) (lb_lt _ _) (cys_le x y i)
def sms (x y i : Nat) : Nat := sm (lb x i) (lb y i) (cys x y i)
theorem sm_spec (x y c : Nat) : x + y + c = sm x y c + 18446744073709551616 * cy x y c ∧ sm x y c < 18446744073709551616 := by
  unfold sm cy; omega
theorem add_parts (x y : Nat) (hx : x < B256) (hy : y < B256) :
    x + y = w4 (sms x y 0) (sms x y 1) (sms x y 2) (sms x y 3) + B256 * cys x y 4 := by
  have h0 := (sm_spec (lb x 0) (lb y 0) (cys x y 0)).1
  have h1 := (sm_spec (lb x 1) (lb y 1) (cys x y 1)).1
  have h2 := (sm_spec (lb x 2) (lb y 2) (cys x y 2)).1
  have h3 := (sm_spec (lb x 3) (lb y 3) (cys x y 3)).1
  have ex := w4_lb x
  have ey := w4_lb y
  rw [Nat.mod_eq_of_lt hx] at ex
  rw [Nat.mod_eq_of_lt hy] at ey
  have b0 : cys x y 0 = 0 := rfl
  have b1 : cys x y 1 = cy (lb x 0) (lb y 0) (cys x y 0) := rfl
  have b2 : cys x y 2 = cy (lb x 1) (lb y 1) (cys x y 1) := rfl
  have b3 : cys x y 3 = cy (lb x 2) (lb y 2) (cys x y 2) := rfl
  have b4 : cys x y 4 = cy (lb x 3) (lb y 3) (cys x y 3) := rfl
  unfold w4 at *
  unfold sms
  unfold B256 at *
  omega
theorem add_cells (x y : Nat) (hx : x < B256) (hy : y < B256) : #[Value.int .u64 (sms x y 0), Value.int .u64 (sms x y 1), Value.int .u64 (sms x y 2), Value.int .u64 (sms x y 3)] = wv (x + y) := by
  have h := add_parts x y hx hy
  refine (wv_w4 (a := sms x y 0) (b := sms x y 1) (c := sms x y 2) (d := sms x y 3) (sm_spec _ _ _).2 (sm_spec _ _ _).2 (sm_spec _ _ _).2 (sm_spec _ _ _).2).trans (wv_inj.2 ?_)
  rw [h]
  exact (Nat.add_mul_mod_self_left _ _ _).symm
theorem add_over (x y : Nat) (hx : x < B256) (hy : y < B256) : ((cys x y 4 : Nat) : Int) = 0 ↔ x + y < B256 := by
  have h := add_parts x y hx hy
  have hb := cys_le x y 4
  have hd : w4 (sms x y 0) (sms x y 1) (sms x y 2) (sms x y 3) < B256 := w4_lt (sm_spec _ _ _).2 (sm_spec _ _ _).2 (sm_spec _ _ _).2 (sm_spec _ _ _).2
  generalize w4 _ _ _ _ = d at *
  unfold B256 at *
  omega

def bw (x y c : Nat) : Nat := if x < y + c then 1 else 0
def df (x y c : Nat) : Nat := (x + 18446744073709551616 - y - c) % 18446744073709551616
theorem bw_le (x y c : Nat) : bw x y c ≤ 1 := by unfold bw; split <;> omega
def bws (x y : Nat) : Nat → Nat
  | 0 => 0
  | i + 1 => bw (lb x i) (lb y i) (bws x y i)
theorem bws_le (x y : Nat) : ∀ i, bws x y i ≤ 1
  | 0 => Nat.zero_le _
  | i + 1 => bw_le _ _ _
def dfs (x y i : Nat) : Nat := df (lb x i) (lb y i) (bws x y i)
/-- One part of a difference, told by sums alone. -/
theorem df_spec (x y c : Nat) (hx : x < 18446744073709551616) (hy : y < 18446744073709551616) (hc : c ≤ 1) : x + 18446744073709551616 * bw x y c = y + c + df x y c ∧ df x y c < 18446744073709551616 := by
  unfold bw df; split <;> omega
theorem sub_parts (x y : Nat) (hx : x < B256) (hy : y < B256) :
    x + B256 * bws x y 4 = y + w4 (dfs x y 0) (dfs x y 1) (dfs x y 2) (dfs x y 3) := by
  have h0 := df_spec (lb x 0) (lb y 0) (bws x y 0) (lb_lt _ _) (lb_lt _ _) (bws_le x y 0)
  have h1 := df_spec (lb x 1) (lb y 1) (bws x y 1) (lb_lt _ _) (lb_lt _ _) (bws_le x y 1)
  have h2 := df_spec (lb x 2) (lb y 2) (bws x y 2) (lb_lt _ _) (lb_lt _ _) (bws_le x y 2)
  have h3 := df_spec (lb x 3) (lb y 3) (bws x y 3) (lb_lt _ _) (lb_lt _ _) (bws_le x y 3)
  have ex := w4_lb x
  have ey := w4_lb y
  rw [Nat.mod_eq_of_lt hx] at ex
  rw [Nat.mod_eq_of_lt hy] at ey
  have b0 : bws x y 0 = 0 := rfl
  have b1 : bws x y 1 = bw (lb x 0) (lb y 0) (bws x y 0) := rfl
  have b2 : bws x y 2 = bw (lb x 1) (lb y 1) (bws x y 1) := rfl
  have b3 : bws x y 3 = bw (lb x 2) (lb y 2) (bws x y 2) := rfl
  have b4 : bws x y 4 = bw (lb x 3) (lb y 3) (bws x y 3) := rfl
  unfold w4 at *
  unfold dfs
  unfold B256 at *
  omega
theorem sub_cells (x y : Nat) (hx : x < B256) (hy : y < B256) : #[Value.int .u64 (dfs x y 0), Value.int .u64 (dfs x y 1), Value.int .u64 (dfs x y 2), Value.int .u64 (dfs x y 3)] = wv (x + B256 - y) := by
  have h := sub_parts x y hx hy
  have hb := bws_le x y 4
  refine (wv_w4 (a := dfs x y 0) (b := dfs x y 1) (c := dfs x y 2) (d := dfs x y 3) (df_spec _ _ _ (lb_lt _ _) (lb_lt _ _) (bws_le _ _ _)).2 (df_spec _ _ _ (lb_lt _ _) (lb_lt _ _) (bws_le _ _ _)).2 (df_spec _ _ _ (lb_lt _ _) (lb_lt _ _) (bws_le _ _ _)).2 (df_spec _ _ _ (lb_lt _ _) (lb_lt _ _) (bws_le _ _ _)).2).trans (wv_inj.2 ?_)
  unfold B256 at *
  generalize w4 (dfs x y 0) (dfs x y 1) (dfs x y 2) (dfs x y 3) = d at *
  omega
theorem sub_over (x y : Nat) (hx : x < B256) (hy : y < B256) : ((bws x y 4 : Nat) : Int) = 0 ↔ y ≤ x := by
  have h := sub_parts x y hx hy
  have hb := bws_le x y 4
  have hd : w4 (dfs x y 0) (dfs x y 1) (dfs x y 2) (dfs x y 3) < B256 := w4_lt (df_spec _ _ _ (lb_lt _ _) (lb_lt _ _) (bws_le _ _ _)).2 (df_spec _ _ _ (lb_lt _ _) (lb_lt _ _) (bws_le _ _ _)).2 (df_spec _ _ _ (lb_lt _ _) (lb_lt _ _) (bws_le _ _ _)).2 (df_spec _ _ _ (lb_lt _ _) (lb_lt _ _) (bws_le _ _ _)).2
  generalize w4 (dfs x y 0) (dfs x y 1) (dfs x y 2) (dfs x y 3) = d at *
  unfold B256 at *
  omega

set_option maxRecDepth 100000 in
set_option maxHeartbeats 1600000 in
theorem carry_add (x y : Nat) (hx : x < B256) (hy : y < B256) (w : World) :
    Calls Try.prog 32 #[.agg (wv x), .agg (wv y), .func (.func 33) #[] #[]] w fun e w' => e = .returned (.tuple #[.agg (wv (x + y)), .bool (decide (x + y < B256))]) ∧ Grew w w' := by
  have h0 : ∀ (w : World), (callFunc 33 #[.int .u64 (lb x 0), .int .u64 (lb y 0), .int .u64 0]).run Try.prog w =
    .ok (.value (.tuple #[.int .u64 (sms x y 0), .int .u64 (cys x y 1)])) w := call_add64 _ _ 0 (by omega)
  have h1 : ∀ (w : World), (callFunc 33 #[.int .u64 (lb x 1), .int .u64 (lb y 1), .int .u64 (cys x y 1)]).run Try.prog w =
    .ok (.value (.tuple #[.int .u64 (sms x y 1), .int .u64 (cys x y 2)])) w := call_add64 _ _ _ (cys_le _ _ _)
  have h2 : ∀ (w : World), (callFunc 33 #[.int .u64 (lb x 2), .int .u64 (lb y 2), .int .u64 (cys x y 2)]).run Try.prog w =
    .ok (.value (.tuple #[.int .u64 (sms x y 2), .int .u64 (cys x y 3)])) w := call_add64 _ _ _ (cys_le _ _ _)
  have h3 : ∀ (w : World), (callFunc 33 #[.int .u64 (lb x 3), .int .u64 (lb y 3), .int .u64 (cys x y 3)]).run Try.prog w =
    .ok (.value (.tuple #[.int .u64 (sms x y 3), .int .u64 (cys x y 4)])) w := call_add64 _ _ _ (cys_le _ _ _)
  have hcells := add_cells x y hx hy
  have hover := add_over x y hx hy
  have Hc := Lib.hid hcells
  have Ho := Lib.hid hover
  clear hx hy hcells hover
  go_enter Try.func32, Try.ntmps32
  go_wp2
  refine wp_loop_rounds 5 ?_
  iterate 4
    rw [rounds_succ]
    go_wp2
    first | refine wp_region_pure_tail_g 14 (by kernel_rfl) (by kernel_rfl) (by intro _ _ _ d _ h; cases d <;> exact h) ?_ | refine wp_region_pure_tail 14 (by kernel_rfl) (by kernel_rfl) (by intro _ _ _ d _ h; cases d <;> exact h) ?_
    simp only [List.take_succ_cons, List.take_zero, List.drop_succ_cons, List.drop_zero]
    repeat (go_big_quiet_step ((fail)))
    refine wpQuiet_nil ?_
    intro _ hw'
    obtain ⟨δ1, hw''⟩ := hw'
    subst hw''
    go_wp2
  rw [rounds_succ]
  go_wp2
  refine bodyPost_ret (v := .tuple #[.agg (wv (x + y)), .bool (decide (x + y < B256))]) ?_ rfl ⟨rfl, (by repeat (first | with_reducible exact Grew.refl _ | with_reducible apply Grew.alloc | with_reducible apply Grew.grow | with_reducible apply Grew.drew | with_reducible apply Grew.drewN))⟩
  simp [results, Try.results32, go_sem]
  exact ⟨Hc.out, by rw [Bool.eq_iff_iff, beq_iff_eq, decide_eq_true_eq]; exact Ho.out⟩

set_option maxRecDepth 100000 in
set_option maxHeartbeats 1600000 in
theorem carry_sub (x y : Nat) (hx : x < B256) (hy : y < B256) (w : World) :
    Calls Try.prog 32 #[.agg (wv x), .agg (wv y), .func (.func 34) #[] #[]] w fun e w' => e = .returned (.tuple #[.agg (wv (x + B256 - y)), .bool (decide (y ≤ x))]) ∧ Grew w w' := by
  have h0 : ∀ (w : World), (callFunc 34 #[.int .u64 (lb x 0), .int .u64 (lb y 0), .int .u64 0]).run Try.prog w =
    .ok (.value (.tuple #[.int .u64 (dfs x y 0), .int .u64 (bws x y 1)])) w := call_sub64 _ _ 0 (by omega)
  have h1 : ∀ (w : World), (callFunc 34 #[.int .u64 (lb x 1), .int .u64 (lb y 1), .int .u64 (bws x y 1)]).run Try.prog w =
    .ok (.value (.tuple #[.int .u64 (dfs x y 1), .int .u64 (bws x y 2)])) w := call_sub64 _ _ _ (bws_le _ _ _)
  have h2 : ∀ (w : World), (callFunc 34 #[.int .u64 (lb x 2), .int .u64 (lb y 2), .int .u64 (bws x y 2)]).run Try.prog w =
    .ok (.value (.tuple #[.int .u64 (dfs x y 2), .int .u64 (bws x y 3)])) w := call_sub64 _ _ _ (bws_le _ _ _)
  have h3 : ∀ (w : World), (callFunc 34 #[.int .u64 (lb x 3), .int .u64 (lb y 3), .int .u64 (bws x y 3)]).run Try.prog w =
    .ok (.value (.tuple #[.int .u64 (dfs x y 3), .int .u64 (bws x y 4)])) w := call_sub64 _ _ _ (bws_le _ _ _)
  have hcells := sub_cells x y hx hy
  have hover := sub_over x y hx hy
  have Hc := Lib.hid hcells
  have Ho := Lib.hid hover
  clear hx hy hcells hover
  go_enter Try.func32, Try.ntmps32
  go_wp2
  refine wp_loop_rounds 5 ?_
  iterate 4
    rw [rounds_succ]
    go_wp2
    first | refine wp_region_pure_tail_g 14 (by kernel_rfl) (by kernel_rfl) (by intro _ _ _ d _ h; cases d <;> exact h) ?_ | refine wp_region_pure_tail 14 (by kernel_rfl) (by kernel_rfl) (by intro _ _ _ d _ h; cases d <;> exact h) ?_
    simp only [List.take_succ_cons, List.take_zero, List.drop_succ_cons, List.drop_zero]
    repeat (go_big_quiet_step ((fail)))
    refine wpQuiet_nil ?_
    intro _ hw'
    obtain ⟨δ1, hw''⟩ := hw'
    subst hw''
    go_wp2
  rw [rounds_succ]
  go_wp2
  refine bodyPost_ret (v := .tuple #[.agg (wv (x + B256 - y)), .bool (decide (y ≤ x))]) ?_ rfl ⟨rfl, (by repeat (first | with_reducible exact Grew.refl _ | with_reducible apply Grew.alloc | with_reducible apply Grew.grow | with_reducible apply Grew.drew | with_reducible apply Grew.drewN))⟩
  simp [results, Try.results32, go_sem]
  exact ⟨Hc.out, by rw [Bool.eq_iff_iff, beq_iff_eq, decide_eq_true_eq]; exact Ho.out⟩

set_option maxHeartbeats 400000 in
theorem add_any (x y : Nat) (hx : x < B256) (hy : y < B256) (w : World) :
    Calls Try.prog 14 #[.agg (wv x), .agg (wv y)] w fun e w' => e = .returned (.tuple #[.agg (wv (x + y)), .bool (decide (x + y < B256))]) ∧ Grew w w' := by
  have hcall := fun w => carry_add x y hx hy w
  clear hx hy
  go_enter Try.func14, Try.ntmps14
  go_wp2_with (go_at_call 32; refine (hcall _).mono ?_; rintro e w' ⟨rfl, δ, rfl⟩)
  refine bodyPost_ret (v := .tuple #[.agg (wv (x + y)), .bool (decide (x + y < B256))]) ?_ rfl ⟨rfl, (by repeat (first | with_reducible exact Grew.refl _ | with_reducible apply Grew.alloc | with_reducible apply Grew.grow | with_reducible apply Grew.drew | with_reducible apply Grew.drewN))⟩
  simp [results, Try.results14, go_sem]

set_option maxHeartbeats 400000 in
theorem sub_any (x y : Nat) (hx : x < B256) (hy : y < B256) (w : World) :
    Calls Try.prog 15 #[.agg (wv x), .agg (wv y)] w fun e w' => e = .returned (.tuple #[.agg (wv (x + B256 - y)), .bool (decide (y ≤ x))]) ∧ Grew w w' := by
  have hcall := fun w => carry_sub x y hx hy w
  clear hx hy
  go_enter Try.func15, Try.ntmps15
  go_wp2_with (go_at_call 32; refine (hcall _).mono ?_; rintro e w' ⟨rfl, δ, rfl⟩)
  refine bodyPost_ret (v := .tuple #[.agg (wv (x + B256 - y)), .bool (decide (y ≤ x))]) ?_ rfl ⟨rfl, (by repeat (first | with_reducible exact Grew.refl _ | with_reducible apply Grew.alloc | with_reducible apply Grew.grow | with_reducible apply Grew.drew | with_reducible apply Grew.drewN))⟩
  simp [results, Try.results15, go_sem]
end Go.Proofs.Ytcoclcbclbjdaaa
