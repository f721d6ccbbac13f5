/- slices.Chunk of bytes, by 64: what its closure does, and what it hands out. -/
import Derived.RangeFuncNested
import Derived.RangeFuncBound
import Derived.RangeFuncCalls
import Derived.RangeFuncLeaves
import Derived.RangeFuncFrom
import Derived.Shelf.Abstract
import Derived.Shelf.RegionOpen
import Derived.WalkKit
import Derived.OwnWalkIn
import Derived.TacticsInMore
import Derived.LoopNIn
import Derived.LoopIn
import Derived.Test.YtmnnmndnpkanlaaRows
import Derived.Test.YtmnnmndnpkanlaaOwn
namespace Go.Proofs.Ytmnnmndnpkanlaa
set_option linter.unusedVariables false
set_option linter.unusedSimpArgs false
open Go.RowKit Go.Shelf
attribute [local go_sem] Oper.semAt_some
/-- What lay ahead of 'n1', but for block 'g', lies as it lay. -/
def KeptBut (g n1 : Nat) (W W' : World) : Prop := ∀ k, k < n1 → k ≠ g → W'.heap[k]? = W.heap[k]?
theorem KeptBut.refl (g n1 : Nat) (W : World) : KeptBut g n1 W W := fun _ _ _ => rfl
theorem KeptBut.trans {g n1 : Nat} {A B C : World} (h : KeptBut g n1 A B) (k : KeptBut g n1 B C) : KeptBut g n1 A C := fun i h1 h2 => (k i h1 h2).trans (h i h1 h2)
theorem KeptBut.cell {g n1 : Nat} {A B : World} (h : KeptBut g n1 A B) {p : Addr} {v : Value} (h1 : p.block < n1) (h2 : p.block ≠ g) (hc : A.cell? p = some v) : B.cell? p = some v :=
  (World.cell?_of_block (h p.block h1 h2)).trans hc
set_option maxRecDepth 100000 in
set_option maxHeartbeats 2000000 in
theorem chunk1_in (F : Fence) (n : Nat) (hf : F.fn 25) (hro : F.round = none) (hn : 1 ≤ n) (l Bs Bn g n1 b off K cap : Nat) (hK : K ≤ 100000000) (hb : b < n1) (hbg : b ≠ g) (hs : Bs < n1) (hsg : Bs ≠ g) (ht : Bn < n1) (htg : Bn ≠ g)
    (J Jx : List Nat → World → Prop)
    (hY : ∀ pre x W, J pre W → pre.length < K → x < K → YieldAt F (n - 1) Try.prog l #[.slice (some ⟨b, off + 64 * x, none⟩) 64 64] W fun e W' =>
      (e = .returned (.bool true) ∧ J (pre ++ [x]) W' ∧ KeptBut g n1 W W') ∨ (e = .returned (.bool false) ∧ Jx (pre ++ [x]) W'))
    (W : World) (cs : W.cell? ⟨Bs, 0, none⟩ = some (.slice (some ⟨b, off, none⟩) (64 * K) cap)) (cn : W.cell? ⟨Bn, 0, none⟩ = some (.int .i64 64)) (hcap : 64 * K ≤ cap) (hcap2 : cap ≤ maxLen) (hJ : AbidesFrom W.heap.size J) (h0 : J [] W) :
    CallsIn F n Try.prog 25 #[.func (.yield l) #[] #[], .pointer (some ⟨Bs, 0, none⟩), .pointer (some ⟨Bn, 0, none⟩)] W fun e W' => (∃ v, e = .returned v) ∧
      ((∃ ys, ys = List.range K ∧ J ys W') ∨ (∃ pre, True ∧ Jx pre W')) := by
  obtain ⟨L, hL⟩ : ∃ L, 64 * K = L := ⟨_, rfl⟩
  rw [hL] at cs hcap
  simp only [maxLen] at hcap2
  refine callsIn_of_wp Try.func25 rfl hf ?_ hro
  simp only [Try.ntmps25, List.size_toArray, List.length_cons, List.length_nil, Nat.reduceAdd, Nat.reduceSub, Array.replicate_succ, Array.replicate_zero, List.push_toArray, List.append_toArray, List.nil_append, List.cons_append]
  have C1 := Lib.hid cs
  have C2 := Lib.hid cn
  have HY := Lib.hid hY
  clear cs cn hY
  gi_wp2
  gi_loopw [4] (fun i wr => ∃ k q : Nat, k ≤ K ∧ 64 * k = q ∧ i = .int .i64 (q : Nat) ∧ J (List.range k) wr ∧ KeptBut g n1 W wr) (fun i _ => L - (intOf i).toNat)
  case atStart => exact ⟨0, 0, by omega, rfl, rfl, h0, KeptBut.refl _ _ _⟩
  case round =>
    obtain ⟨k, q, hk, hq, rfl, hJs, hkp⟩ := hrel
    have c1 := hkp.cell (p := ⟨Bs, 0, none⟩) hs hsg C1.out
    have c2 := hkp.cell (p := ⟨Bn, 0, none⟩) ht htg C2.out
    by_cases hlt : k < K
    · have hJd : J (List.range k) wr.drew := hJ _ _ _ none hJs ⟨rfl, rfl, rfl, Nat.le_refl _, fun _ _ _ => rfl⟩ (by intro r e; cases e)
      obtain ⟨fn, tmps, assign, body, hy, hR⟩ := HY.out _ k wr.drew hJd (by rw [List.length_range]; exact hlt) hlt
      rw [hq] at hy
      have h1 : (q : Int) < (L : Int) := by omega
      have h2 : q ≤ L := by omega
      have h3 : 64 ≤ L - q := by omega
      have HR := Lib.hid hR
      have HJ := Lib.hid hJs
      have HP := Lib.hid hkp
      have hcq : ¬ (cap = q) := by omega
      clear hR hJs hkp hJd
      have hmx : Try.prog.follows .mixedOrders = true := by kernel_rfl
      gi_wp2
      gi_region_o
      all_goals gi_wp2
      all_goals
        refine HR.out.mono ?_
        rintro e W3 (⟨rfl, hJ3, hk3⟩ | ⟨rfl, hJx3⟩)
      all_goals first
        | (have hk4 : KeptBut g n1 W W3 := fun i i1 i2 => (hk3 i i1 i2).trans (HP.out i i1 i2)
           have c3 := hk4.cell (p := ⟨Bs, 0, none⟩) hs hsg C1.out
           have c4 := hk4.cell (p := ⟨Bn, 0, none⟩) ht htg C2.out
           have hqw : (q : Int) + 64 < 9223372036854775808 := by omega
           clear c1 c2
           gi_wp2
           go_roundw
           case rel => exact ⟨k + 1, q + 64, by omega, by omega, by go_num, by rw [List.range_succ]; exact hJ3, hk4⟩
           case measure => simp only [intOf]; omega)
        | (gi_wp2
           refine bodyPost_ret (results_none rfl _ _ _) rfl ?_
           exact ⟨⟨_, rfl⟩, .inr ⟨_, trivial, hJx3⟩⟩)
    · have hqL : ¬ ((q : Int) < (L : Int)) := by omega
      have e1 : k = K := by omega
      subst e1
      clear hq hL hK hk hlt HY
      gi_wp2
      go_end0
      exact ⟨⟨_, rfl⟩, .inl hJs⟩
end Go.Proofs.Ytmnnmndnpkanlaa
