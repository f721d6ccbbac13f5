/- The chapter's example. -/
import Derived.Test.YtipofeefalpjgaaRows
import Derived.Test.YtipofeefalpjgaaTgtMath
import Derived.Deep.RegionWith
namespace Go.Proofs.Ytipofeefalpjgaa
set_option linter.unusedVariables false
set_option linter.unusedSimpArgs false
open Go.RowKit

def easy : Nat := 545259519
theorem easy_ok : tgOk 545259519 = true := by decide
theorem easy_em : (545259519 : Nat) = em (29 + 3) 8388607 := by decide
theorem easy_n : (tg 545259519).n = 8388607 * 2 ^ 232 := by
  have := tg_em 29 8388607 (by omega) (by omega) (by omega)
  rw [← easy_em] at this
  exact this
theorem easy_3 : ((lb (tg 545259519).n 3 : Int) == 9223370937343148032) = true := by rw [easy_n]; decide +kernel
theorem easy_0 : ((lb (tg 545259519).n 0 : Int) == 0) = true := by rw [easy_n]; decide +kernel
theorem easy_wk : (wk (tg 545259519)).n = 2 := by
  unfold wk
  rw [Wd.of_n, easy_n]
  decide +kernel
theorem easy_w0 : ((lb (wk (tg 545259519)).n 0 : Int) == 2) = true := by rw [easy_wk]; decide +kernel
theorem easy_w3 : ((lb (wk (tg 545259519)).n 3 : Int) == 0) = true := by rw [easy_wk]; decide +kernel
theorem easy_cp : ((cp (tg 545259519) : Int) == 545259519) = true := by rw [cp_tg easy_ok]; rfl
theorem lv_zero (t : Wd) : lv Idb.zero t = 31 := by
  have h1 := levW_le Idb.zero.w t
  have h2 := (levW_iff Idb.zero.w t 31 (by omega)).2 (by
    rw [Idb.w_n]
    have : numB Idb.zero.l = 0 := by decide
    rw [this]; exact Nat.zero_le _)
  unfold lv; omega
def Idb.high : Idb := ⟨(id1 255), by decide, by decide⟩
theorem lv_high : lv Idb.high (tg 545259519) = -1 := by
  have h1 : ¬ (0 < levW Idb.high.w (tg 545259519)) := by
    rw [levW_iff Idb.high.w _ 0 (by omega), Idb.w_n, Nat.shiftRight_zero, easy_n]
    decide +kernel
  unfold lv; omega
theorem level_z (t : Wd) (w : World) : Calls Try.prog 16 #[.agg (iv id0), .agg (wv t.n)] w fun e w' => e = .returned (.int .i64 31) ∧ Grew w w' := by
  have := level_i Idb.zero t w
  rw [lv_zero] at this
  exact this
theorem level_h (w : World) : Calls Try.prog 16 #[.agg (iv (id1 255)), .agg (wv (tg 545259519).n)] w fun e w' => e = .returned (.int .i64 (-1)) ∧ Grew w w' := by
  have := level_i Idb.high (tg 545259519) w
  rw [lv_high] at this
  exact this
theorem easy_ex : ∃ t : Wd, t = tg 545259519 := ⟨_, rfl⟩
/-- The easy target: nothing computes it. -/
noncomputable def easyT : Wd := Classical.choose easy_ex
theorem easyT_eq : easyT = tg 545259519 := Classical.choose_spec easy_ex
theorem target_easy (w : World) : Calls Try.prog 10 #[.int .u32 545259519] w fun e w' => e = .returned (.tuple #[.agg (wv easyT.n), .bool true]) ∧ Grew w w' := by
  have := target_w 545259519 (by decide) w
  rw [easy_ok, ← easyT_eq] at this
  exact this
theorem level_he (w : World) : Calls Try.prog 16 #[.agg (iv (id1 255)), .agg (wv easyT.n)] w fun e w' => e = .returned (.int .i64 (-1)) ∧ Grew w w' := by
  rw [easyT_eq]; exact level_h w

set_option maxRecDepth 100000 in
set_option maxHeartbeats 1600000 in
theorem awake3 (w : World) : Calls Try.prog 9 #[] w fun e w' => e = .returned (.bool true) ∧ Grew w w' := by
  have f2 := easy_3
  have f3 := easy_0
  have f4 := easy_w0
  have f5 := easy_w3
  have f6 := easy_cp
  rw [← easyT_eq] at f2 f3 f4 f5 f6
  go_enter Try.func9, Try.ntmps9
  go_wp2_with (first
    | (go_at_call 10; refine (target_easy _).mono ?_; rintro e w' ⟨rfl, δ, rfl⟩)
    | (go_at_call 14; refine (work_w _ _).mono ?_; rintro e w' ⟨rfl, δ, rfl⟩)
    | (go_at_call 12; refine (compact_i _ _).mono ?_; rintro e w' ⟨rfl, δ, rfl⟩))
  refine (level_z _ _).mono ?_
  rintro e w' ⟨rfl, δ, rfl⟩
  go_wp2_with fail
  refine (level_he _).mono ?_
  rintro e w' ⟨rfl, δ, rfl⟩
  go_wp2_with fail
  go_ret
  exact ⟨rfl, (by repeat (first | with_reducible exact Grew.refl _ | with_reducible apply Grew.alloc | with_reducible apply Grew.grow | with_reducible apply Grew.drew | with_reducible apply Grew.drewN))⟩
end Go.Proofs.Ytipofeefalpjgaa
