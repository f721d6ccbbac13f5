/- What the statements of this chapter rest on, part 3. Conditions: none. -/
import Derived.Test.YtinkdkcmmjfhoaaRows
import Derived.Laws.CopyOwn
import Derived.RangeFuncNested
import Derived.RangeFuncBound
import Derived.RangeFuncCalls
import Derived.RangeFuncLeaves
import Derived.RangeFuncFrom
import Derived.Shelf.Abstract
import Derived.Shelf.RegionOpen
import Derived.WalkKit
import Derived.OwnWalkIn
import Derived.TacticsInMore
import Derived.LoopNIn
import Derived.LoopIn
import Derived.ProofKit
import Derived.OpenShut
import Derived.Laws.IdiomArrays
import Derived.Carry
import Derived.DataShut
import Derived.ChangeSlices
import Derived.Deep.Matrix
import Derived.Test.YtinkdkcmmjfhoaaM2
/- sha.Pad. -/
namespace Go.Proofs.Ytinkdkcmmjfhoaa
set_option linter.unusedVariables false
set_option linter.unusedSimpArgs false
open Go.RowKit
theorem pad_cat (l : List Nat) (p : Option Addr) (c m : Nat) (w : World) (hl : l.length ≤ 1073741824) (hm : m ≤ 1000) (hv : Shows w (.slice p l.length c) (bys l)) :
    Calls Try.prog 58 #[.slice (some ⟨w.heap.size + 1 + 1, 0, none⟩) 3 3]
      (((w.alloc (.cells #[.int .u8 128] 5)).alloc (.cells (bys (zeros m)).toArray 5)).alloc (.cells #[.slice p l.length c, .slice (some ⟨w.heap.size, 0, none⟩) 1 1, .slice (some ⟨w.heap.size + 1, 0, none⟩) m m] 38))
      fun e w' => ∃ g cap, e = .returned (.slice (some ⟨g, 0, none⟩) (l.length + 1 + m) cap) ∧ w.heap.size ≤ g ∧ OwnR w' w.heap.size 5 (.slice (some ⟨g, 0, none⟩) (l.length + 1 + m) cap) (bys (l ++ 128 :: zeros m)) ∧ Grew w w' := by
  have g0 : Grew w (w.alloc (.cells #[.int .u8 128] 5)) := (by repeat (first | with_reducible exact Grew.refl _ | with_reducible apply Grew.alloc | with_reducible apply Grew.grow | with_reducible apply Grew.drew | with_reducible apply Grew.drewN))
  have g1 : Grew (w.alloc (.cells #[.int .u8 128] 5)) ((w.alloc (.cells #[.int .u8 128] 5)).alloc (.cells (bys (zeros m)).toArray 5)) := (by repeat (first | with_reducible exact Grew.refl _ | with_reducible apply Grew.alloc | with_reducible apply Grew.grow | with_reducible apply Grew.drew | with_reducible apply Grew.drewN))
  have s0 := shows_alloc w (bys [128]) 5 1
  have s1 := shows_alloc (w.alloc (.cells #[.int .u8 128] 5)) (bys (zeros m)) 5 m
  have s2 := shows_alloc ((w.alloc (.cells #[.int .u8 128] 5)).alloc (.cells (bys (zeros m)).toArray 5)) [.slice p l.length c, .slice (some ⟨w.heap.size, 0, none⟩) 1 1, .slice (some ⟨w.heap.size + 1, 0, none⟩) m m] 38 3
  have g2 : Grew ((w.alloc (.cells #[.int .u8 128] 5)).alloc (.cells (bys (zeros m)).toArray 5)) (((w.alloc (.cells #[.int .u8 128] 5)).alloc (.cells (bys (zeros m)).toArray 5)).alloc (.cells #[.slice p l.length c, .slice (some ⟨w.heap.size, 0, none⟩) 1 1, .slice (some ⟨w.heap.size + 1, 0, none⟩) m m] 38)) := (by repeat (first | with_reducible exact Grew.refl _ | with_reducible apply Grew.alloc | with_reducible apply Grew.grow | with_reducible apply Grew.drew | with_reducible apply Grew.drewN))
  rw [World.size_alloc, bys_len, zeros_len] at s1
  rw [World.size_alloc, World.size_alloc] at s2
  have hfl : ([l, [128], zeros m] : List (List Nat)).flatten = l ++ 128 :: zeros m := by simp
  refine (concat_w [l, [128], zeros m] _ _ _ rfl s2 ?_ (by rw [hfl]; simp [zeros_len]; omega) (by simp)).mono ?_
  · intro k hk
    have hk : k < 3 := hk
    match k, hk with
    | 0, _ => exact hv.grew (g0.trans (g1.trans g2))
    | 1, _ => exact s0.grew (g1.trans g2)
    | 2, _ => exact s1.grew g2
  · rintro e w' ⟨v, rfl, ho, hg⟩
    rw [hfl] at ho
    have ho' := ho.base (base' := w.heap.size) (by simp; omega)
    obtain ⟨q, cap, rfl⟩ := shows_form ho.shows
    have hlen : (bys (l ++ 128 :: zeros m)).length = l.length + 1 + m := by rw [bys_len]; simp [zeros_len]; omega
    rw [hlen] at ho ho' ⊢
    rcases ho'.2 with ⟨h, h0⟩ | ⟨g, cap', cur, h, hb, _⟩
    · rw [hlen] at h0; omega
    · rw [hlen] at h
      simp only [Value.slice.injEq] at h
      obtain ⟨rfl, _, rfl⟩ := h
      exact ⟨g, _, rfl, hb, ho', (g0.trans (g1.trans g2)).trans hg⟩
/-- The bytes, with how many bits they have, of which 'k' bytes are told. -/
def padk (l : List Nat) (m : Nat) : Nat → List Nat
  | 0 => l ++ 128 :: zeros m
  | k + 1 => (padk l m k).set (l.length + 1 + m - 1 - k) (8 * l.length / 2 ^ (8 * k) % 256)
theorem padk_len (l : List Nat) (m : Nat) : ∀ k, (padk l m k).length = l.length + 1 + m
  | 0 => by simp [padk, zeros_len]; omega
  | k + 1 => by unfold padk; rw [List.length_set, padk_len l m k]
set_option maxRecDepth 100000 in
set_option maxHeartbeats 1600000 in
theorem pad_w (l : List Nat) (v : Value) (w : World) (hl : l.length ≤ 1073741824) (hv : Shows w v (bys l)) :
    Calls Try.prog 44 #[v] w fun e w' => ∃ v' m, m = (64 - (l.length + 9) % 64) % 64 + 8 ∧ e = .returned v' ∧ OwnR w' w.heap.size 5 v' (bys (padk l m 8)) ∧ Grew w w' := by
  obtain ⟨p, c, rfl⟩ := shows_form hv
  rw [bys_len] at hv ⊢
  have HV := Lib.hid hv
  clear hv
  obtain ⟨nz, hnz⟩ : ∃ nz : Nat, (64 - ((l.length : Int) + 1 + 8) % 64) % 64 = (nz : Int) := ⟨((64 - ((l.length : Int) + 1 + 8) % 64) % 64).toNat, by omega⟩
  have hnz2 : nz < 64 := by omega
  obtain ⟨m, hm⟩ : ∃ m : Nat, (nz : Int) + 8 = (m : Int) := ⟨nz + 8, by omega⟩
  have hm2 : m ≤ 1099511627776 := by omega
  have HM := Lib.hid (show m = (64 - (l.length + 9) % 64) % 64 + 8 by omega)
  go_enter Try.func44, Try.ntmps44
  go_wp2_with (go_at_call 58; refine stop_of ?_)
  unfold Stop
  refine (pad_cat l p c m w hl (by omega) HV.out).mono ?_
  rintro e w' ⟨g, cap, rfl, hg, ho, hgr⟩
  simp only []
  go_wp2
  obtain ⟨N, hN⟩ : ∃ N, l.length + 1 + m = N := ⟨_, rfl⟩
  rw [hN] at ho ⊢
  have HO := Lib.hid ho
  have HG := Lib.hid hgr
  clear ho hgr hnz hm HV
  have hm8 : 8 ≤ m := by have := HM.out; omega
  go_loopw [20] (fun n wr => ∃ k : Nat, k ≤ 8 ∧ n = .int .i64 k ∧ OwnR wr w.heap.size 5 (.slice (some ⟨g, 0, none⟩) N cap) (bys (padk l m k)) ∧ Grew w wr) (fun n _ => 8 - (intOf n).toNat)
  case atStart => exact ⟨0, by omega, rfl, HO.out, HG.out⟩
  case round =>
    obtain ⟨k, hk, rfl, ho, hg2⟩ := hrel
    by_cases hn : k < 8
    · have hlt : (k : Int) < 8 := by omega
      have hpl := padk_len l m k
      rw [hN] at hpl
      obtain ⟨q, hq⟩ : ∃ q, N - 1 - k = q := ⟨_, rfl⟩
      have hq1 : (N : Int) - 1 - (k : Int) = (q : Int) := by omega
      have hq2 : q < N := by omega
      have hq3 : (q : Int) < (N : Int) := by omega
      have hfz := own_frozen ho q
      have hce := own_cell ho q (by rw [bys_len, hpl]; exact hq2)
      have hst := fun u => own_stored ho q u
      generalize (bys (padk l m k))[q]'(by rw [bys_len, hpl]; exact hq2) = old at hce
      go_wp2
      have hnum : (8 * (l.length : Int) / 2 ^ (8 * k) % 256) = ((8 * l.length / 2 ^ (8 * k) % 256 : Nat) : Int) := by
        rw [Int.natCast_emod, Int.natCast_ediv, Int.natCast_mul, Int.natCast_pow]; rfl
      have hb : bys (padk l m (k + 1)) = (bys (padk l m k)).set q (.int .u8 (8 * (l.length : Int) / 2 ^ (8 * k) % 256)) := by
        rw [hnum]
        unfold bys
        rw [← List.map_set]
        conv => lhs; unfold padk
        rw [hN, hq]
      refine ⟨⟨k + 1, by omega, by go_num, by rw [hb]; exact (hst _).1, Grew.grown hg2 (hst _).2 fun j hj => (by cases hj; exact hg)⟩, by simp only [intOf]; omega⟩
    · obtain rfl : k = 8 := by omega
      clear hk hn
      go_wp2
      go_ret
      exact ⟨_, m, HM.out, rfl, ho, hg2⟩
/-- The lowest 'k' bytes of a number, the greatest first. -/
def tailk (n : Nat) : Nat → List Nat
  | 0 => []
  | k + 1 => (n / 2 ^ (8 * k) % 256) :: tailk n k
theorem tailk_len (n : Nat) : ∀ k, (tailk n k).length = k
  | 0 => rfl
  | k + 1 => by simp [tailk, tailk_len n k]
theorem zeros_succ (n : Nat) : zeros (n + 1) = zeros n ++ [0] := by simp [zeros, List.replicate_succ']
theorem set_mid (a b : List Nat) (x y : Nat) : (a ++ x :: b).set a.length y = a ++ y :: b := by simp
theorem padk_eq (l : List Nat) (m : Nat) : ∀ k, k ≤ m → padk l m k = l ++ 128 :: (zeros (m - k) ++ tailk (8 * l.length) k)
  | 0, _ => by simp [padk, tailk]
  | k + 1, h => by
    unfold padk tailk
    rw [padk_eq l m k (by omega)]
    obtain ⟨j, hj⟩ : ∃ j, m - k = j + 1 := ⟨m - k - 1, by omega⟩
    rw [hj, zeros_succ, show m - (k + 1) = j by omega]
    have e : l.length + 1 + m - 1 - k = (l ++ 128 :: zeros j).length := by simp [zeros_len]; omega
    have := set_mid (l ++ 128 :: zeros j) (tailk (8 * l.length) k) 0 (8 * l.length / 2 ^ (8 * k) % 256)
    rw [e]
    rw [List.append_assoc, List.append_assoc] at this
    simp only [List.append_assoc, List.cons_append, List.nil_append, List.singleton_append] at this ⊢
    exact this
/-- What bytes become. -/
def pad (l : List Nat) : List Nat := l ++ 128 :: (zeros ((64 - (l.length + 9) % 64) % 64) ++ tailk (8 * l.length) 8)
theorem pad_len (l : List Nat) : (pad l).length = l.length + 9 + (64 - (l.length + 9) % 64) % 64 := by simp [pad, zeros_len, tailk_len]; omega
theorem tailk_lt (n : Nat) : ∀ k, ∀ c ∈ tailk n k, c < 256
  | 0 => by simp [tailk]
  | k + 1 => by
    intro c hc
    simp only [tailk, List.mem_cons] at hc
    rcases hc with rfl | hc
    · exact Nat.mod_lt _ (by omega)
    · exact tailk_lt n k c hc
theorem pad_lt (l : List Nat) (h : ∀ c ∈ l, c < 256) : ∀ c ∈ pad l, c < 256 := by
  intro c hc
  simp only [pad, List.mem_append, List.mem_cons, zeros, List.mem_replicate] at hc
  rcases hc with hc | rfl | ⟨_, rfl⟩ | hc
  · exact h c hc
  · omega
  · omega
  · exact tailk_lt _ _ c hc
theorem pad_w' (l : List Nat) (v : Value) (w : World) (hl : l.length ≤ 1073741824) (hv : Shows w v (bys l)) :
    Calls Try.prog 44 #[v] w fun e w' => ∃ v', e = .returned v' ∧ OwnR w' w.heap.size 5 v' (bys (pad l)) ∧ Grew w w' := by
  refine (pad_w l v w hl hv).mono ?_
  rintro e w' ⟨v', m, hm, rfl, ho, hg⟩
  refine ⟨v', rfl, ?_, hg⟩
  rw [padk_eq l m 8 (by omega), hm, Nat.add_sub_cancel] at ho
  exact ho
end Go.Proofs.Ytinkdkcmmjfhoaa
/- slices.Reverse of ints, tree's sides. -/
namespace Go.Proofs.Ytinkdkcmmjfhoaa
set_option linter.unusedVariables false
set_option linter.unusedSimpArgs false
open Go.RowKit
/-- The cells of ints. -/
def ivs (l : List Nat) : List Value := l.map fun (c : Nat) => Value.int .i64 (c : Int)
theorem ivs_len (l : List Nat) : (ivs l).length = l.length := by simp [ivs]
theorem ivs_append (l m : List Nat) : ivs (l ++ m) = ivs l ++ ivs m := by simp [ivs]
theorem ivs_get (l : List Nat) (i : Nat) (h : i < (ivs l).length) : (ivs l)[i] = .int .i64 ((l.getD i 0 : Nat) : Int) := by
  have : i < l.length := by rwa [ivs_len] at h
  simp [ivs, List.getD, this]
theorem ivs_set (l : List Nat) (i x : Nat) : (ivs l).set i (.int .i64 (x : Int)) = ivs (l.set i x) := by simp [ivs, List.map_set]
theorem under_is : Try.prog.underlying 49 = some (.slice 3) := by kernel_rfl
theorem info_i : ∃ i, Try.prog.info? 3 = some i ∧ i.zero = some (.int .i64 0) ∧ i.size = 1 ∧ i.bytes = 8 := by
  refine ⟨_, rfl, ?_, ?_, ?_⟩ <;> kernel_rfl
/-- The first 'k', and the last 'k', turned round. -/
def revk (l : List Nat) (k : Nat) : List Nat := (List.range l.length).map fun i => if i < k ∨ l.length - 1 - k < i then l.getD (l.length - 1 - i) 0 else l.getD i 0
theorem revk_len (l : List Nat) (k : Nat) : (revk l k).length = l.length := by simp [revk]
theorem revk_get (l : List Nat) (k i : Nat) (h : i < l.length) : (revk l k).getD i 0 = if i < k ∨ l.length - 1 - k < i then l.getD (l.length - 1 - i) 0 else l.getD i 0 := by
  simp [revk, List.getD, h]
theorem getD_ext {a b : List Nat} (h : a.length = b.length) (h2 : ∀ i, i < a.length → a.getD i 0 = b.getD i 0) : a = b := by
  apply List.ext_getElem h
  intro i h3 h4
  have := h2 i h3
  simpa [List.getD, h3, h4] using this
theorem getD_set (l : List Nat) (i j x : Nat) (h : i < l.length) : (l.set j x).getD i 0 = if j = i then x else l.getD i 0 := by
  simp only [List.getD, List.getElem?_set]
  split
  · rename_i e; subst e; simp [h]
  · rfl
theorem revk_0 (l : List Nat) : revk l 0 = l := getD_ext (revk_len l 0) fun i h => by
  rw [revk_len] at h
  rw [revk_get l 0 i h, if_neg (by omega)]
theorem revk_step (l : List Nat) (k : Nat) (h : 2 * k + 1 < l.length) : ((revk l k).set k ((revk l k).getD (l.length - 1 - k) 0)).set (l.length - 1 - k) ((revk l k).getD k 0) = revk l (k + 1) := by
  have hl := revk_len l k
  have e1 : (revk l k).getD (l.length - 1 - k) 0 = l.getD (l.length - 1 - k) 0 := by rw [revk_get l k _ (by omega), if_neg (by omega)]
  have e2 : (revk l k).getD k 0 = l.getD k 0 := by rw [revk_get l k _ (by omega), if_neg (by omega)]
  rw [e1, e2]
  refine getD_ext (by simp [revk_len]) fun i hi => ?_
  rw [List.length_set, List.length_set, hl] at hi
  rw [getD_set _ _ _ _ (by rw [List.length_set, hl]; exact hi), getD_set _ _ _ _ (by rw [hl]; exact hi), revk_get l (k + 1) i hi, revk_get l k i hi]
  by_cases h1 : l.length - 1 - k = i
  · rw [if_pos h1, if_pos (show i < k + 1 ∨ l.length - 1 - (k + 1) < i by omega), show l.length - 1 - i = k by omega]
  · rw [if_neg h1]
    by_cases h2 : k = i
    · rw [if_pos h2, if_pos (show i < k + 1 ∨ l.length - 1 - (k + 1) < i by omega), h2]
    · rw [if_neg h2]
      by_cases h3 : i < k ∨ l.length - 1 - k < i
      · rw [if_pos h3, if_pos (show i < k + 1 ∨ l.length - 1 - (k + 1) < i by omega)]
      · rw [if_neg h3, if_neg (show ¬ (i < k + 1 ∨ l.length - 1 - (k + 1) < i) by omega)]
theorem revk_all (l : List Nat) (k : Nat) (h : l.length ≤ 2 * k + 1) (hk : 2 * k ≤ l.length) : revk l k = l.reverse := getD_ext (by simp [revk_len]) fun i hi => by
  rw [revk_len] at hi
  rw [revk_get l k i hi]
  have e : l.reverse.getD i 0 = l.getD (l.length - 1 - i) 0 := by simp [List.getD, List.getElem?_reverse hi]
  rw [e]
  split
  · rfl
  · congr 1; omega
set_option maxRecDepth 100000 in
set_option maxHeartbeats 3200000 in
theorem reverse_w (l : List Nat) (v : Value) (w0 w : World) (hl : l.length ≤ 1000000) (hg : Grew w0 w) (ho : OwnR w w0.heap.size 3 v (ivs l)) :
    Calls Try.prog 59 #[v] w fun e w' => (∃ u, e = .returned u) ∧ OwnR w' w0.heap.size 3 v (ivs l.reverse) ∧ Grew w0 w' := by
  rcases Nat.lt_or_ge 0 l.length with h0 | h0
  case inr =>
    obtain rfl : l = [] := List.length_eq_zero_iff.1 (by omega)
    obtain ⟨p, c, rfl⟩ := shows_form ho.shows
    have HO := Lib.hid ho
    have HG := Lib.hid hg
    clear ho hg
    rw [ivs_len]
    simp only [List.length_nil]
    go_enter Try.func59, Try.ntmps59
    go_wp2
    go_loopw [2, 3] (fun n m wr => n = .int .i64 0 ∧ m = .int .i64 (-1) ∧ wr = w) (fun _ _ _ => 0)
    case atStart => exact ⟨rfl, rfl, rfl⟩
    case round =>
      obtain ⟨rfl, rfl, rfl⟩ := hrel
      go_wp2
      go_end0
      exact ⟨⟨_, rfl⟩, by have := HO.out; rwa [ivs_len] at this, HG.out⟩
  case inl =>
    obtain ⟨g, c, cur, rfl, hgb, hh, hnc, hcm, _, _⟩ := ho.2.resolve_left (by rw [ivs_len]; rintro ⟨_, h⟩; omega)
    have HO := Lib.hid ho
    have HG := Lib.hid hg
    clear ho hg
    rw [ivs_len] at HO hnc ⊢
    obtain ⟨N, hN⟩ : ∃ N, l.length = N := ⟨_, rfl⟩
    rw [hN] at HO hnc hl h0 ⊢
    go_enter Try.func59, Try.ntmps59
    go_wp2
    go_loopw [2, 3] (fun n m wr => ∃ k j : Nat, k + j = N - 1 ∧ 2 * k ≤ N ∧ n = .int .i64 k ∧ m = .int .i64 j ∧ OwnR wr w0.heap.size 3 (.slice (some ⟨g, 0, none⟩) N c) (ivs (revk l k)) ∧ Grew w0 wr) (fun n _ _ => N - (intOf n).toNat)
    case atStart => exact ⟨0, N - 1, by omega, by omega, rfl, by go_num, by rw [revk_0]; exact HO.out, HG.out⟩
    case round =>
      obtain ⟨k, j, hkj, h2k, rfl, rfl, ho, hg⟩ := hrel
      have HO := Lib.hid ho
      have HG := Lib.hid hg
      have hrl := revk_len l k
      rw [hN] at hrl
      have hgs : g < wr.heap.size := (HO.out.block g rfl).2
      clear ho hg
      by_cases hn : k < j
      · have hlt : (k : Int) < (j : Int) := by omega
        have hkN : (k : Int) < (N : Int) := by omega
        have hjN : (j : Int) < (N : Int) := by omega
        have ck := own_cell HO.out k (by rw [ivs_len, hrl]; omega)
        have cj := own_cell HO.out j (by rw [ivs_len, hrl]; omega)
        rw [ivs_get] at ck cj
        have hst := revk_step l k (by omega)
        rw [hN, show N - 1 - k = j by omega] at hst
        obtain ⟨x, hx⟩ : ∃ x, (revk l k).getD k 0 = x := ⟨_, rfl⟩
        obtain ⟨y, hy⟩ : ∃ y, (revk l k).getD j 0 = y := ⟨_, rfl⟩
        rw [hx] at ck hst
        rw [hy] at cj hst
        have HST := Lib.hid hst
        have HKJ := Lib.hid (And.intro hkj h2k)
        have hfk := own_frozen HO.out k
        have hfj := own_frozen HO.out j
        have hne : ¬ k = j := by omega
        have hj1 : 1 ≤ (j : Int) := by omega
        clear hst hx hy hkj h2k hrl hn
        go_wp2
        go_region
        all_goals
          go_wp2
          obtain ⟨hkj, h2k⟩ := HKJ.out
          have s1 := own_stored HO.out k (.int .i64 y)
          have s2 := own_stored s1.1 j (.int .i64 x)
          rw [ivs_set, ivs_set, HST.out] at s2
          have hb0 := (HO.out.block g rfl).1
          have hG := (HG.out.grown s1.2 (fun z hz => by cases hz; exact hb0)).grown s2.2 (fun z hz => by cases hz; exact hb0)
          exact ⟨⟨k + 1, j - 1, by omega, by omega, by go_num, by go_num, s2.1.grew (Grew.refl _).drew, hG.drew⟩, by simp only [intOf]; omega⟩
      · have e : revk l k = l.reverse := revk_all l k (by omega) (by omega)
        rw [e] at HO
        have hge : ¬ ((k : Int) < (j : Int)) := by omega
        clear hkj h2k hn
        go_wp2
        go_end0
        exact ⟨⟨_, rfl⟩, HO.out, HG.out⟩
end Go.Proofs.Ytinkdkcmmjfhoaa
/- tree's sides. -/
namespace Go.Proofs.Ytinkdkcmmjfhoaa
set_option linter.unusedVariables false
set_option linter.unusedSimpArgs false
open Go.RowKit
/-- Where leaf 'i' of 'n' stands, from the greatest tree on: 0 is left, 1 is right. -/
def down : Nat → Nat → Nat → List Nat
  | 0, _, _ => []
  | f + 1, n, i => if n ≤ 1 then [] else if i < halfN n then 0 :: down f (halfN n) i else 1 :: down f (n - halfN n) (i - halfN n)
def side (n i : Nat) : List Nat := down n n i
theorem down_fuel : ∀ (f f' n i : Nat), n ≤ 1099511627776 → n ≤ f → n ≤ f' → down f n i = down f' n i
  | 0, f', n, i, _, h, _ => by
    obtain rfl : n = 0 := by omega
    cases f' with
    | zero => rfl
    | succ f' => simp [down]
  | f + 1, 0, n, i, _, _, h => by
    obtain rfl : n = 0 := by omega
    simp [down]
  | f + 1, f' + 1, n, i, hb, h, h' => by
    unfold down
    by_cases h1 : n ≤ 1
    · rw [if_pos h1, if_pos h1]
    · rw [if_neg h1, if_neg h1]
      have hs := half_sand n (by omega) hb
      have hp := half_pos n
      rw [down_fuel f f' (halfN n) i (by omega) (by omega) (by omega), down_fuel f f' (n - halfN n) (i - halfN n) (by omega) (by omega) (by omega)]
theorem side_one (n i : Nat) (h : n ≤ 1) : side n i = [] := by
  unfold side
  cases n with
  | zero => rfl
  | succ n => simp [down, h]
theorem side_left (n i : Nat) (h2 : 2 ≤ n) (hb : n ≤ 1099511627776) (h : i < halfN n) : side n i = 0 :: side (halfN n) i := by
  obtain ⟨m, rfl⟩ : ∃ m, n = m + 1 := ⟨n - 1, by omega⟩
  have hs := half_sand (m + 1) h2 hb
  unfold side
  rw [down, if_neg (by omega), if_pos h, down_fuel m (halfN (m + 1)) _ _ (by omega) (by omega) (by omega)]
theorem side_right (n i : Nat) (h2 : 2 ≤ n) (hb : n ≤ 1099511627776) (h : ¬ i < halfN n) : side n i = 1 :: side (n - halfN n) (i - halfN n) := by
  obtain ⟨m, rfl⟩ : ∃ m, n = m + 1 := ⟨n - 1, by omega⟩
  have hs := half_sand (m + 1) h2 hb
  have hp := half_pos (m + 1)
  unfold side
  rw [down, if_neg (by omega), if_neg h, down_fuel m (m + 1 - halfN (m + 1)) _ _ (by omega) (by omega) (by omega)]
theorem down_len : ∀ (f n i : Nat), n ≤ 1099511627776 → (down f n i).length + 1 ≤ max n 1
  | 0, n, i, _ => by simp [down]; omega
  | f + 1, n, i, hb => by
    unfold down
    split
    · simp; omega
    · have hs := half_sand n (by omega) hb
      have hp := half_pos n
      split
      · have := down_len f (halfN n) i (by omega); simp only [List.length_cons]; omega
      · have := down_len f (n - halfN n) (i - halfN n) (by omega); simp only [List.length_cons]; omega
theorem side_len (n i : Nat) (h1 : 1 ≤ n) (hb : n ≤ 1099511627776) : (side n i).length < n := by
  have := down_len n n i hb
  unfold side
  omega
theorem ivs_one (l : List Nat) : ∀ x ∈ ivs l, x.oneCell' = true := by
  intro x hx
  obtain ⟨c, _, rfl⟩ := List.mem_map.1 hx
  rfl
set_option maxRecDepth 100000 in
set_option maxHeartbeats 3200000 in
theorem sides_w (n i : Nat) (h1 : 1 ≤ n) (hn : n ≤ 1000000) (hi : i < n) (w : World) :
    Calls Try.prog 39 #[.int .i64 n, .int .i64 i] w fun e w' => ∃ v, e = .returned v ∧ OwnR w' w.heap.size 3 v (ivs (side n i).reverse) ∧ Grew w w' := by
  obtain ⟨ii, hif, hz, hsz, hby⟩ := info_i
  go_enter Try.func39, Try.ntmps39
  go_wp2
  go_loopw [0, 1, 5] (fun a b v wr => ∃ (m j : Nat) (d : List Nat), a = .int .i64 m ∧ b = .int .i64 j ∧ 1 ≤ m ∧ j < m ∧ d.length + m ≤ n ∧ d ++ side m j = side n i ∧ OwnR wr w.heap.size 3 v (ivs d) ∧ Grew w wr) (fun a _ _ _ => (intOf a).toNat)
  case atStart => exact ⟨n, i, [], rfl, rfl, h1, hi, by simp, rfl, OwnR.nil _ _ _, Grew.refl _⟩
  case round =>
    obtain ⟨m, j, d, rfl, rfl, hm1, hj, hd, hs, ho, hg⟩ := hrel
    have HO := Lib.hid ho
    have HG := Lib.hid hg
    have HS := Lib.hid hs
    have hdl : (ivs d).length + 1 ≤ 1000000 := by rw [ivs_len]; omega
    have HD := Lib.hid hd
    clear ho hg hs hd
    by_cases h2 : 1 < m
    · have hlt : (1 : Int) < (m : Int) := by omega
      have hsd := half_sand m (by omega) (by have := HD.out; omega)
      have hp := half_pos m
      have hw := fun w => half_w m (by omega) (by have := HD.out; omega) w
      have hl := side_left m j (by omega) (by have := HD.out; omega)
      have hr := side_right m j (by omega) (by have := HD.out; omega)
      obtain ⟨k, hk⟩ : ∃ k, halfN m = k := ⟨_, rfl⟩
      rw [hk] at hsd hp hw hl hr
      have HW := Lib.hid hw
      have HSD := Lib.hid (And.intro hsd hp)
      by_cases hjk : j < k
      · have hjk' : (j : Int) < (k : Int) := by omega
        have HL := Lib.hid (hl hjk)
        clear hl hr hw hsd hp hk h2 hm1
        go_wp2_with (first | (go_at_call 50; refine (HW.out _).mono ?_; rintro e w' ⟨rfl, δ, rfl⟩) | (at_builtin; refine stop_of ?_))
        unfold Stop
        have HOK : OwnR ((wr.grow δ).alloc (.cells #[.int .i64 0] 3)) w.heap.size 3 _ (ivs d) := HO.out.grew (by repeat (first | with_reducible exact Grew.refl _ | with_reducible apply Grew.alloc | with_reducible apply Grew.grow | with_reducible apply Grew.drew | with_reducible apply Grew.drewN))
        refine wpList_appends rfl _ _ _ rfl _ ii _ 8 under_is hif hz hsz hby rfl w _ _ _ rfl rfl (ivs d) (ivs [0]) (HG.out.trans (by repeat (first | with_reducible exact Grew.refl _ | with_reducible apply Grew.alloc | with_reducible apply Grew.grow | with_reducible apply Grew.drew | with_reducible apply Grew.drewN))) (by exact HOK) (by exact shows_one_g _ _ _ _ _) (ivs_one _) (by simp only [ivs_len, maxLen, List.length_cons, List.length_nil] at hdl ⊢; omega) (by simp only [ivs_len, List.length_cons, List.length_nil] at hdl ⊢; omega) ?_
        intro v2 w3 ho2 hg2
        have ho3 := ivs_append d [0] ▸ ho2
        clear ho2
        go_wp2
        have hsd := HSD.out
        have hd := HD.out
        exact ⟨⟨k, j, d ++ [0], by go_num, rfl, by omega, hjk, by simp only [List.length_append, List.length_cons, List.length_nil]; omega, by rw [← HS.out, HL.out]; simp, ho3, hg2⟩, by simp only [intOf]; omega⟩
      · have hjk' : ¬ (j : Int) < (k : Int) := by omega
        have HL := Lib.hid (hr hjk)
        have hmk : (m : Int) - (k : Int) = ((m - k : Nat) : Int) := by omega
        have hjk2 : (j : Int) - (k : Int) = ((j - k : Nat) : Int) := by omega
        have hmB : (m : Int) ≤ 1000000 := by have := HD.out; omega
        have hk1 : 1 ≤ (k : Int) := by omega
        have hkm : (k : Int) ≤ (m : Int) := by omega
        have hjm : (j : Int) ≤ (m : Int) := by omega
        clear hl hr hw hsd hp hk h2 hm1
        go_wp2_with (first | (go_at_call 50; refine (HW.out _).mono ?_; rintro e w' ⟨rfl, δ, rfl⟩) | (at_builtin; refine stop_of ?_))
        unfold Stop
        have HOK : OwnR ((wr.grow δ).alloc (.cells #[.int .i64 1] 3)) w.heap.size 3 _ (ivs d) := HO.out.grew (by repeat (first | with_reducible exact Grew.refl _ | with_reducible apply Grew.alloc | with_reducible apply Grew.grow | with_reducible apply Grew.drew | with_reducible apply Grew.drewN))
        refine wpList_appends rfl _ _ _ rfl _ ii _ 8 under_is hif hz hsz hby rfl w _ _ _ rfl rfl (ivs d) (ivs [1]) (HG.out.trans (by repeat (first | with_reducible exact Grew.refl _ | with_reducible apply Grew.alloc | with_reducible apply Grew.grow | with_reducible apply Grew.drew | with_reducible apply Grew.drewN))) (by exact HOK) (by exact shows_one_g _ _ _ _ _) (ivs_one _) (by simp only [ivs_len, maxLen, List.length_cons, List.length_nil] at hdl ⊢; omega) (by simp only [ivs_len, List.length_cons, List.length_nil] at hdl ⊢; omega) ?_
        intro v2 w3 ho2 hg2
        have ho3 := ivs_append d [1] ▸ ho2
        clear ho2
        go_wp2
        have hsd := HSD.out
        have hd := HD.out
        exact ⟨⟨m - k, j - k, d ++ [1], by go_num, by go_num, by omega, by omega, by simp only [List.length_append, List.length_cons, List.length_nil]; omega, by rw [← HS.out, HL.out]; simp, ho3, hg2⟩, by simp only [intOf]; omega⟩
    · obtain rfl : m = 1 := by omega
      clear h2
      have HR := fun v (w2 : World) (hg : Grew w w2) (ho : OwnR w2 w.heap.size 3 v (ivs d)) => reverse_w d v w w2 (by rw [ivs_len] at hdl; omega) hg ho
      go_wp2_with (go_at_call 59; refine (HR _ _ HG.out HO.out).mono ?_; rintro e w' ⟨⟨u, rfl⟩, ho2, hg2⟩)
      go_ret
      have hs := HS.out
      rw [side_one 1 j (by omega), List.append_nil] at hs
      rw [← hs]
      exact ⟨_, rfl, ho2, hg2⟩
end Go.Proofs.Ytinkdkcmmjfhoaa
/- sha's add: 64 bytes go into eight words. -/
namespace Go.Proofs.Ytinkdkcmmjfhoaa
set_option linter.unusedVariables false
set_option linter.unusedSimpArgs false
open Go.RowKit

theorem Grew.setRow_new {a b : World} (h : Grew a b) (g : Nat) (cs : Array Value) (hg : a.heap.size ≤ g) : Grew a (b.setRow g cs) :=
  Grew.of_below (below_setRow h.below hg cs)
theorem Grew.setRow_old {a b : World} (h : Grew a b) (g : Nat) (cs : Array Value) (hg : g < a.heap.size) : Grew (a.setRow g cs) (b.setRow g cs) := by
  obtain ⟨δ, rfl⟩ := h
  rw [setRow_grow _ _ _ _ hg]
  exact ⟨δ, rfl⟩
theorem Grew.rowAt {a b : World} (h : Grew a b) (g : Nat) (hg : g < a.heap.size) : b.rowAt g = a.rowAt g := rowAt_of_heap (h.heap hg)
theorem Grew.rowFree {a b : World} (h : Grew a b) (g : Nat) (hg : g < a.heap.size) : b.rowFree g = a.rowFree g := rowFree_of_heap (h.heap hg)
theorem under_st : Try.prog.underlying 60 = some (.array 8 58) := by kernel_rfl
theorem info_u32 : (Try.prog.info? 58).map (·.size) = some 1 := by kernel_rfl
@[go_sem] theorem index_st (l : List (BitVec 32)) (i : Nat) (hl : l.length = 8) (h : i < 8) (w : World) : (Instr.index 60 (.agg (uv l)) (.int .i64 (i : Int))).run Try.prog w = .ok (.int .u32 (u (wordAt l i))) w := by
  have hs : (sizeOf 58).run Try.prog w = .ok 1 w := by
    have := info_u32
    cases hq : Try.prog.info? 58 with
    | none => rw [hq] at this; cases this
    | some i => simp [hq] at this; simp [sizeOf, typeInfo, hq, this]
  have hp : (part 58 (uv l) i).run Try.prog w = .ok (.int .u32 (u (wordAt l i))) w := by
    have ha : (isAgg 58).run Try.prog w = .ok false w := by
      unfold isAgg
      rw [Sem.run_bind, run_underlying Try.underlying58 w]
      rfl
    simp [part, Sem.run_bind, ha, uv_at l i (by omega)]
  have hi : (0 : Int) ≤ i ∧ (i : Int) < (8 : Nat) := by omega
  simp only [Instr.index, Sem.run_bind, asIntOf, Sem.run_pure, Result.andThen_ok, run_underlying under_st w, if_pos hi, hs, Int.toNat_natCast, Nat.mul_one, hp]
theorem three_rows (w : World) (δ : Junk) (a b c : Array Value) (ta tb tc : TypeId) : ∃ gw gk gv w1, (((w.alloc (.cells a ta)).grow δ).alloc (.cells b tb)).alloc (.cells c tc) = w1 ∧ w.heap.size + 1 + δ.n + 1 = gv ∧ w.heap.size + 1 + δ.n = gk ∧ w.heap.size = gw ∧
    w1.rowAt gv = c ∧ w1.rowFree gv = true ∧ (∀ i, w1.cell? ⟨gw, i, none⟩ = a[i]?) ∧ (∀ i, w1.cell? ⟨gk, i, none⟩ = b[i]?) ∧ (gw ≠ gv ∧ gk ≠ gv ∧ gw < w1.heap.size ∧ gk < w1.heap.size ∧ gv < w1.heap.size ∧ w.heap.size ≤ gv) ∧ Grew w w1 := by
  refine ⟨_, _, _, _, rfl, rfl, rfl, rfl, ?_, ?_, ?_, ?_, ?_, ?_⟩
  · simp [go_sem]
  · simp [go_sem]
  · intro i; rw [cell_rowAt]; simp [go_sem]
  · intro i; rw [cell_rowAt]; simp [go_sem]
  · refine ⟨?_, ?_, ?_, ?_, ?_, ?_⟩ <;> (try simp only [size_grow, World.size_alloc]) <;> omega
  · exact (by repeat (first | with_reducible exact Grew.refl _ | with_reducible apply Grew.alloc | with_reducible apply Grew.grow | with_reducible apply Grew.drew | with_reducible apply Grew.drewN))
set_option maxRecDepth 100000 in
set_option maxHeartbeats 16000000 in
theorem add_w (s : List (BitVec 32)) (l : List Nat) (hs : s.length = 8) (hl : ∀ c ∈ l, c < 256) (sB bB o c : Nat) (w : World) (h1 : w.rowAt sB = uv s) (h2 : w.rowFree sB = true) (hne : sB ≠ bB)
    (hb : ∀ j, j < 64 → w.cell? ⟨bB, o + j, none⟩ = some (.int .u8 (byteAt l j : Nat))) :
    Calls Try.prog 45 #[.pointer (some ⟨sB, 0, none⟩), .slice (some ⟨bB, o, none⟩) 64 c] w fun e w' => (∃ v, e = .returned v) ∧ Grew (w.setRow sB (uv (compress s l))) w' := by
  have l1 : sB < w.heap.size := row_lt w (n := 7) (by rw [h1, uv_size, hs])
  have l2 : bB < w.heap.size := World.block_lt_of_cell? w _ (hb 0 (by omega))
  obtain ⟨ps1, ps2, ps3, ps4, ps5, ps6, ps7, ps8, ps9, ps10, ps11, ps12, ps13, ps14⟩ := places_of w sB l1
  obtain ⟨pb1, pb2, pb3, pb4, pb5, pb6, pb7, pb8, pb9, pb10, pb11, pb12, pb13, pb14⟩ := places_of w bB l2
  have hb' := fun i => byteAt_lt l hl i
  have HB := Lib.hid hb
  have HL := Lib.hid hb'
  have H1 := Lib.hid h1
  have HN := Lib.hid hne
  clear hb hl hb' h1 hne
  go_enter Try.func45, Try.ntmps45
  go_wp2
  go_loopw [17] (fun n wr => ∃ (k : Nat) (δ : Junk), k ≤ 64 ∧ n = .int .i64 k ∧ wr = (w.alloc (.cells (uv (pad64 (sched l k))) 82)).grow δ) (fun n _ => 64 - (intOf n).toNat)
  case atStart => exact ⟨0, ⟨#[], w.drawn⟩, by omega, rfl, (grow_self _).symm⟩
  case round =>
    obtain ⟨k, δ, hk, rfl, rfl⟩ := hrel
    by_cases hn : k < 64
    · have hlen := sched_len l k
      have hpl := pad64_len (sched l k) (by omega)
      by_cases h16 : k < 16
      · have c0 := HB.out (4 * k) (by omega)
        have c1 := HB.out (4 * k + 1) (by omega)
        have c2 := HB.out (4 * k + 2) (by omega)
        have c3 := HB.out (4 * k + 3) (by omega)
        have a0 := HL.out (4 * k)
        have a1 := HL.out (4 * k + 1)
        have a2 := HL.out (4 * k + 2)
        have a3 := HL.out (4 * k + 3)
        have o2 := be_or2 _ _ a0 a1
        have o3 := be_or3 _ _ _ a0 a1 a2
        have o4 := be_or4 _ _ _ _ a0 a1 a2 a3
        have hs16 := sched_low l k h16
        go_wp2
        first | refine wp_region_pure_tail_g 35 (by kernel_rfl) (by kernel_rfl) (by intro _ _ _ d _ h; cases d <;> exact h) ?_ | refine wp_region_pure_tail 35 (by kernel_rfl) (by kernel_rfl) (by intro _ _ _ d _ h; cases d <;> exact h) ?_
        simp only [List.take_succ_cons, List.take_zero, List.drop_succ_cons, List.drop_zero]
        repeat (go_big_quiet_step ((fail)))
        refine wpQuiet_nil ?_
        intro _ hw'
        obtain ⟨δ1, hw''⟩ := hw'
        subst hw''
        go_wp2
        exact ⟨⟨k + 1, _, by omega, by go_num, rfl⟩, by simp only [intOf]; omega⟩
      · have hs16 := sched_high l k h16 hn
        have g1 : (16 : Int) ≤ (k : Int) := by omega
        have g2 : (15 : Int) ≤ (k : Int) := by omega
        have g3 : (2 : Int) ≤ (k : Int) := by omega
        have g4 : (7 : Int) ≤ (k : Int) := by omega
        have m1 : 16 ≤ k := by omega
        have m2 : 15 ≤ k := by omega
        have m3 : 2 ≤ k := by omega
        have m4 : 7 ≤ k := by omega
        have d1 := uv_at (pad64 (sched l k)) (k - 15) (by omega)
        have d2 := uv_at (pad64 (sched l k)) (k - 2) (by omega)
        have d3 := uv_at (pad64 (sched l k)) (k - 16) (by omega)
        have d4 := uv_at (pad64 (sched l k)) (k - 7) (by omega)
        go_wp2
        first | refine wp_region_pure_lit_g (by kernel_rfl) (by kernel_rfl) ?_ | refine wp_region_pure_lit (by kernel_rfl) (by kernel_rfl) ?_
        repeat (go_big_quiet_step ((fail)))
        refine wpQuiet_nil ?_
        intro _ hw'
        obtain ⟨δ1, hw''⟩ := hw'
        subst hw''
        go_wp2
        first | refine wp_region_pure_tail_g 29 (by kernel_rfl) (by kernel_rfl) (by intro _ _ _ d _ h; cases d <;> exact h) ?_ | refine wp_region_pure_tail 29 (by kernel_rfl) (by kernel_rfl) (by intro _ _ _ d _ h; cases d <;> exact h) ?_
        simp only [List.take_succ_cons, List.take_zero, List.drop_succ_cons, List.drop_zero]
        repeat (go_big_quiet_step ((go_at_call 61; exact Calls.pure_of (right_i _ _ (by decide) _))))
        refine wpQuiet_nil ?_
        intro _ hw'
        obtain ⟨δ1, hw''⟩ := hw'
        subst hw''
        go_wp2
        exact ⟨⟨k + 1, _, by omega, by go_num, rfl⟩, by simp only [intOf]; omega⟩
    · obtain rfl : k = 64 := by omega
      clear hk hn
      rw [pad64_full _ (sched_len l 64)]
      obtain ⟨W, hW⟩ : ∃ W, sched l 64 = W := ⟨_, rfl⟩
      have hWl : W.length = 64 := by rw [← hW]; exact sched_len l 64
      rw [hW]
      have HW := Lib.hid hW
      clear hW
      have e1 := H1.out
      go_wp2_with (go_at_call 62; refine (numbers_w _).mono ?_; rintro e w' ⟨rfl, δ', rfl⟩)
      clear e1
      generalize { objs := δ.objs ++ δ'.objs, drawn := δ'.drawn : Junk } = δ1
      obtain ⟨gw, gk, gv, w1, r1, r2, r3, r4, r5, r6, r7, r8, ⟨q1, q2, q3, q4, q5, q6⟩, r10⟩ := three_rows w δ1 (uv W) (uv ks) (uv s) 82 82 60
      rw [r1, r2, r3, r4]
      have R7 := Lib.hid r7
      have R8 := Lib.hid r8
      have R5 := Lib.hid r5
      have R10 := Lib.hid r10
      clear r1 r2 r3 r4 r7 r8 r10 pb1 pb2 pb3 pb4 pb5 pb6 pb7 pb8 pb9 pb10 pb11 pb12 pb13 pb14 ps1 ps2 ps3 ps4 ps5 ps6 ps7 ps8 ps9 ps10 ps11 ps12 ps13 ps14 
      go_loopw [99] (fun n wr => ∃ (k : Nat) (δ2 : Junk), k ≤ 64 ∧ n = .int .i64 k ∧ wr = (w1.setRow gv (uv (rnds s W k))).grow δ2) (fun n _ => 64 - (intOf n).toNat)
      case atStart => exact ⟨0, ⟨#[], w1.drawn⟩, by omega, rfl, by rw [show rnds s W 0 = s from rfl, ← r5, setRow_same' _ _ r6]; exact (grow_self _).symm⟩
      case round =>
        obtain ⟨k, δ2, hk, rfl, rfl⟩ := hrel
        by_cases hn : k < 64
        · have hlen := rnds_len s W hs k
          have hss : IntKind.u32.signed = false := rfl
          have c7 := (R7.out k).trans (uv_at W k (by omega))
          have c8 := (R8.out k).trans (uv_at ks k (by rw [ks_len]; omega))
          clear r5
          have hfold : #[Value.int .u32 (u (tx (rnds s W k) (wordAt ks k) (wordAt W k) + ty (rnds s W k))), Value.int .u32 (u (wordAt (rnds s W k) 0)), Value.int .u32 (u (wordAt (rnds s W k) 1)), Value.int .u32 (u (wordAt (rnds s W k) 2)), Value.int .u32 (u (wordAt (rnds s W k) 3 + tx (rnds s W k) (wordAt ks k) (wordAt W k))), Value.int .u32 (u (wordAt (rnds s W k) 4)), Value.int .u32 (u (wordAt (rnds s W k) 5)), Value.int .u32 (u (wordAt (rnds s W k) 6))] = uv (rnds s W (k + 1)) := rfl
          unfold tx ty at hfold
          have hnext := rnds_len s W hs (k + 1)
          have x0 := uv_at (rnds s W k) 0 (by omega)
          have y0 := fun h => uv_elem (rnds s W k) 0 h
          have x1 := uv_at (rnds s W k) 1 (by omega)
          have y1 := fun h => uv_elem (rnds s W k) 1 h
          have x2 := uv_at (rnds s W k) 2 (by omega)
          have y2 := fun h => uv_elem (rnds s W k) 2 h
          have x3 := uv_at (rnds s W k) 3 (by omega)
          have y3 := fun h => uv_elem (rnds s W k) 3 h
          have x4 := uv_at (rnds s W k) 4 (by omega)
          have y4 := fun h => uv_elem (rnds s W k) 4 h
          have x5 := uv_at (rnds s W k) 5 (by omega)
          have y5 := fun h => uv_elem (rnds s W k) 5 h
          have x6 := uv_at (rnds s W k) 6 (by omega)
          have y6 := fun h => uv_elem (rnds s W k) 6 h
          have x7 := uv_at (rnds s W k) 7 (by omega)
          have y7 := fun h => uv_elem (rnds s W k) 7 h
          have xs := uv_size (rnds s W k)
          rw [hlen] at xs
          obtain ⟨kk, hkk⟩ : ∃ x, wordAt ks k = x := ⟨_, rfl⟩
          obtain ⟨ww, hww⟩ : ∃ x, wordAt W k = x := ⟨_, rfl⟩
          rw [hkk] at c8 hfold
          rw [hww] at c7 hfold
          obtain ⟨v0, hv0⟩ : ∃ x, wordAt (rnds s W k) 0 = x := ⟨_, rfl⟩
          simp only [hv0] at x0 y0 hfold
          obtain ⟨v1, hv1⟩ : ∃ x, wordAt (rnds s W k) 1 = x := ⟨_, rfl⟩
          simp only [hv1] at x1 y1 hfold
          obtain ⟨v2, hv2⟩ : ∃ x, wordAt (rnds s W k) 2 = x := ⟨_, rfl⟩
          simp only [hv2] at x2 y2 hfold
          obtain ⟨v3, hv3⟩ : ∃ x, wordAt (rnds s W k) 3 = x := ⟨_, rfl⟩
          simp only [hv3] at x3 y3 hfold
          obtain ⟨v4, hv4⟩ : ∃ x, wordAt (rnds s W k) 4 = x := ⟨_, rfl⟩
          simp only [hv4] at x4 y4 hfold
          obtain ⟨v5, hv5⟩ : ∃ x, wordAt (rnds s W k) 5 = x := ⟨_, rfl⟩
          simp only [hv5] at x5 y5 hfold
          obtain ⟨v6, hv6⟩ : ∃ x, wordAt (rnds s W k) 6 = x := ⟨_, rfl⟩
          simp only [hv6] at x6 y6 hfold
          obtain ⟨v7, hv7⟩ : ∃ x, wordAt (rnds s W k) 7 = x := ⟨_, rfl⟩
          simp only [hv7] at x7 y7 hfold
          clear hv0 hv1 hv2 hv3 hv4 hv5 hv6 hv7 hkk hww
          obtain ⟨V', hV'⟩ : ∃ V', rnds s W (k + 1) = V' := ⟨_, rfl⟩
          rw [hV'] at hnext hfold
          have HV' := Lib.hid hV'
          have HF := Lib.hid hfold
          clear hV' hfold hlen hs
          generalize uv (rnds s W k) = V at *
          have z7 : ∀ δ, ((w1.setRow gv V).grow δ).cell? ⟨gw, k, none⟩ = some (.int .u32 (u ww)) := fun δ => by
            rw [cell_grow_old _ _ _ _ _ (by rw [setRow_size]; exact q3), cell_setRow_other _ _ _ _ q1]; exact c7
          have z8 : ∀ δ, ((w1.setRow gv V).grow δ).cell? ⟨gk, k, none⟩ = some (.int .u32 (u kk)) := fun δ => by
            rw [cell_grow_old _ _ _ _ _ (by rw [setRow_size]; exact q4), cell_setRow_other _ _ _ _ q2]; exact c8
          clear c7 c8
          have hlt : (k : Int) < 64 := by omega
          go_wp2
          first | refine wp_region_pure_lit_g (by kernel_rfl) (by kernel_rfl) ?_ | refine wp_region_pure_lit (by kernel_rfl) (by kernel_rfl) ?_
          repeat (go_big_quiet_step ((fail)))
          refine wpQuiet_nil ?_
          intro _ hw'
          obtain ⟨δ1, hw''⟩ := hw'
          subst hw''
          go_wp2
          first | refine wp_region_pure_lit_g (by kernel_rfl) (by kernel_rfl) ?_ | refine wp_region_pure_lit (by kernel_rfl) (by kernel_rfl) ?_
          repeat (go_big_quiet_step ((go_at_call 61; exact Calls.pure_of (right_i _ _ (by decide) _))))
          refine wpQuiet_nil ?_
          intro _ hw'
          obtain ⟨δ1, hw''⟩ := hw'
          subst hw''
          go_wp2
          first | refine wp_region_pure_lit_g (by kernel_rfl) (by kernel_rfl) ?_ | refine wp_region_pure_lit (by kernel_rfl) (by kernel_rfl) ?_
          repeat (go_big_quiet_step ((go_at_call 61; exact Calls.pure_of (right_i _ _ (by decide) _))))
          refine wpQuiet_nil ?_
          intro _ hw'
          obtain ⟨δ1, hw''⟩ := hw'
          subst hw''
          have hF := HF.out
          go_wp2
          exact ⟨⟨k + 1, δ1, by omega, by go_num, by rw [HV'.out, setRow_setRow]⟩, by simp only [intOf]; omega⟩
        · obtain rfl : k = 64 := by omega
          clear hk hn
          have hlen := rnds_len s W hs 64
          have g2 : Grew w ((w1.setRow gv (uv (rnds s W 64))).grow δ2) := (Grew.setRow_new R10.out gv _ q6).grow δ2
          have p1 : ((w1.setRow gv (uv (rnds s W 64))).grow δ2).rowAt gv = uv (rnds s W 64) := by
            rw [rowAt_grow_old _ _ _ (by rw [setRow_size]; exact q5), rowAt_setRow_free _ _ _ r6]
          have p2 := Grew.rowAt g2 sB l1
          have p3 := Grew.rowFree g2 sB l1
          rw [H1.out] at p2
          rw [h2] at p3
          obtain ⟨w2, hw2⟩ : ∃ w2, (w1.setRow gv (uv (rnds s W 64))).grow δ2 = w2 := ⟨_, rfl⟩
          rw [hw2] at g2 p1 p2 p3 ⊢
          obtain ⟨V, hV⟩ : ∃ V, rnds s W 64 = V := ⟨_, rfl⟩
          rw [hV] at p1 hlen
          have G2 := Lib.hid g2
          have HV := Lib.hid hV
          have P2 := Lib.hid p2
          clear hw2 g2 hV p2
          go_wp2
          go_loopw [180] (fun n wr => ∃ (k : Nat) (δ3 : Junk), k ≤ 8 ∧ n = .int .i64 k ∧ wr = (w2.setRow sB (uv (mixk s V k))).grow δ3) (fun n _ => 8 - (intOf n).toNat)
          case atStart => exact ⟨0, ⟨#[], w2.drawn⟩, by omega, rfl, by rw [mixk_0 s V hs, ← P2.out, setRow_same' _ _ p3]; exact (grow_self _).symm⟩
          case round =>
            obtain ⟨k, δ3, hk, rfl, rfl⟩ := hrel
            by_cases hn : k < 8
            · have hlt : (k : Int) < 8 := by omega
              have m1 := mixk_len s V k
              have m2 := mixk_at s V k hn
              have m3 := mixk_set s V k hn
              rw [m2] at m3
              have m4 := uv_at (mixk s V k) k (by omega)
              have m5 := uv_at V k (by omega)
              have lz : sB < w2.heap.size := row_lt w2 (n := 7) (by rw [P2.out, uv_size, hs])
              go_wp2
              first | refine wp_region_pure_tail_g 9 (by kernel_rfl) (by kernel_rfl) (by intro _ _ _ d _ h; cases d <;> exact h) ?_ | refine wp_region_pure_tail 9 (by kernel_rfl) (by kernel_rfl) (by intro _ _ _ d _ h; cases d <;> exact h) ?_
              simp only [List.take_succ_cons, List.take_zero, List.drop_succ_cons, List.drop_zero]
              repeat (go_big_quiet_step ((fail)))
              refine wpQuiet_nil ?_
              intro _ hw'
              obtain ⟨δ1, hw''⟩ := hw'
              subst hw''
              go_wp2
              exact ⟨⟨k + 1, _, by omega, by go_num, rfl⟩, by simp only [intOf]; omega⟩
            · obtain rfl : k = 8 := by omega
              clear hk hn
              have hge : ¬ ((8 : Nat) : Int) < 8 := by omega
              go_wp2
              refine bodyPost_end (v := .tuple #[]) (by kernel_rfl) rfl ⟨⟨_, rfl⟩, Grew.grow ?_ δ3⟩
              rw [← HV.out, ← HW.out, mixk_8]
              exact Grew.setRow_old G2.out sB _ l1
end Go.Proofs.Ytinkdkcmmjfhoaa
/- slices.Chunk of bytes, by 64: what its closure does, and what it hands out. -/
namespace Go.Proofs.Ytinkdkcmmjfhoaa
set_option linter.unusedVariables false
set_option linter.unusedSimpArgs false
open Go.RowKit Go.Shelf
attribute [local go_sem] Oper.semAt_some
/-- What lay ahead of 'n1', but for block 'g', lies as it lay. -/
def KeptBut (g n1 : Nat) (W W' : World) : Prop := ∀ k, k < n1 → k ≠ g → W'.heap[k]? = W.heap[k]?
theorem KeptBut.refl (g n1 : Nat) (W : World) : KeptBut g n1 W W := fun _ _ _ => rfl
theorem KeptBut.trans {g n1 : Nat} {A B C : World} (h : KeptBut g n1 A B) (k : KeptBut g n1 B C) : KeptBut g n1 A C := fun i h1 h2 => (k i h1 h2).trans (h i h1 h2)
theorem KeptBut.cell {g n1 : Nat} {A B : World} (h : KeptBut g n1 A B) {p : Addr} {v : Value} (h1 : p.block < n1) (h2 : p.block ≠ g) (hc : A.cell? p = some v) : B.cell? p = some v :=
  (World.cell?_of_block (h p.block h1 h2)).trans hc
set_option maxRecDepth 100000 in
set_option maxHeartbeats 2000000 in
theorem chunk1_in (F : Fence) (n : Nat) (hf : F.fn 60) (hro : F.round = none) (hn : 1 ≤ n) (l Bs Bn g n1 b off K cap : Nat) (hK : K ≤ 100000000) (hb : b < n1) (hbg : b ≠ g) (hs : Bs < n1) (hsg : Bs ≠ g) (ht : Bn < n1) (htg : Bn ≠ g)
    (J Jx : List Nat → World → Prop)
    (hY : ∀ pre x W, J pre W → pre.length < K → x < K → YieldAt F (n - 1) Try.prog l #[.slice (some ⟨b, off + 64 * x, none⟩) 64 64] W fun e W' =>
      (e = .returned (.bool true) ∧ J (pre ++ [x]) W' ∧ KeptBut g n1 W W') ∨ (e = .returned (.bool false) ∧ Jx (pre ++ [x]) W'))
    (W : World) (cs : W.cell? ⟨Bs, 0, none⟩ = some (.slice (some ⟨b, off, none⟩) (64 * K) cap)) (cn : W.cell? ⟨Bn, 0, none⟩ = some (.int .i64 64)) (hcap : 64 * K ≤ cap) (hcap2 : cap ≤ maxLen) (hJ : AbidesFrom W.heap.size J) (h0 : J [] W) :
    CallsIn F n Try.prog 60 #[.func (.yield l) #[] #[], .pointer (some ⟨Bs, 0, none⟩), .pointer (some ⟨Bn, 0, none⟩)] W fun e W' => (∃ v, e = .returned v) ∧
      ((∃ ys, ys = List.range K ∧ J ys W') ∨ (∃ pre, True ∧ Jx pre W')) := by
  obtain ⟨L, hL⟩ : ∃ L, 64 * K = L := ⟨_, rfl⟩
  rw [hL] at cs hcap
  simp only [maxLen] at hcap2
  refine callsIn_of_wp Try.func60 rfl hf ?_ hro
  simp only [Try.ntmps60, List.size_toArray, List.length_cons, List.length_nil, Nat.reduceAdd, Nat.reduceSub, Array.replicate_succ, Array.replicate_zero, List.push_toArray, List.append_toArray, List.nil_append, List.cons_append]
  have C1 := Lib.hid cs
  have C2 := Lib.hid cn
  have HY := Lib.hid hY
  clear cs cn hY
  gi_wp2
  gi_loopw [4] (fun i wr => ∃ k q : Nat, k ≤ K ∧ 64 * k = q ∧ i = .int .i64 (q : Nat) ∧ J (List.range k) wr ∧ KeptBut g n1 W wr) (fun i _ => L - (intOf i).toNat)
  case atStart => exact ⟨0, 0, by omega, rfl, rfl, h0, KeptBut.refl _ _ _⟩
  case round =>
    obtain ⟨k, q, hk, hq, rfl, hJs, hkp⟩ := hrel
    have c1 := hkp.cell (p := ⟨Bs, 0, none⟩) hs hsg C1.out
    have c2 := hkp.cell (p := ⟨Bn, 0, none⟩) ht htg C2.out
    by_cases hlt : k < K
    · have hJd : J (List.range k) wr.drew := hJ _ _ _ none hJs ⟨rfl, rfl, rfl, Nat.le_refl _, fun _ _ _ => rfl⟩ (by intro r e; cases e)
      obtain ⟨fn, tmps, assign, body, hy, hR⟩ := HY.out _ k wr.drew hJd (by rw [List.length_range]; exact hlt) hlt
      rw [hq] at hy
      have h1 : (q : Int) < (L : Int) := by omega
      have h2 : q ≤ L := by omega
      have h3 : 64 ≤ L - q := by omega
      have HR := Lib.hid hR
      have HJ := Lib.hid hJs
      have HP := Lib.hid hkp
      have hcq : ¬ (cap = q) := by omega
      clear hR hJs hkp hJd
      have hmx : Try.prog.follows .mixedOrders = true := by kernel_rfl
      gi_wp2
      gi_region_o
      all_goals gi_wp2
      all_goals
        refine HR.out.mono ?_
        rintro e W3 (⟨rfl, hJ3, hk3⟩ | ⟨rfl, hJx3⟩)
      all_goals first
        | (have hk4 : KeptBut g n1 W W3 := fun i i1 i2 => (hk3 i i1 i2).trans (HP.out i i1 i2)
           have c3 := hk4.cell (p := ⟨Bs, 0, none⟩) hs hsg C1.out
           have c4 := hk4.cell (p := ⟨Bn, 0, none⟩) ht htg C2.out
           have hqw : (q : Int) + 64 < 9223372036854775808 := by omega
           clear c1 c2
           gi_wp2
           go_roundw
           case rel => exact ⟨k + 1, q + 64, by omega, by omega, by go_num, by rw [List.range_succ]; exact hJ3, hk4⟩
           case measure => simp only [intOf]; omega)
        | (gi_wp2
           refine bodyPost_ret (results_none rfl _ _ _) rfl ?_
           exact ⟨⟨_, rfl⟩, .inr ⟨_, trivial, hJx3⟩⟩)
    · have hqL : ¬ ((q : Int) < (L : Int)) := by omega
      have e1 : k = K := by omega
      subst e1
      clear hq hL hK hk hlt HY
      gi_wp2
      go_end0
      exact ⟨⟨_, rfl⟩, .inl hJs⟩
end Go.Proofs.Ytinkdkcmmjfhoaa
/- slices.Chunk of bytes, by 64: it hands back what hands out the parts, one by one. -/
namespace Go.Proofs.Ytinkdkcmmjfhoaa
set_option linter.unusedVariables false
set_option linter.unusedSimpArgs false
open Go.RowKit Go.Shelf
attribute [local go_sem] Oper.semAt_some
set_option maxHeartbeats 1000000 in
theorem chunk_in (F : Fence) (n : Nat) (hf : F.fn 43) (hro : F.round = none) (a : Option Addr) (len cap : Nat) (w : World) :
    CallsIn F n Try.prog 43 #[.slice a len cap, .int .i64 64] w fun e w' => e = .returned (.func (.func 60) #[] #[.pointer (some ⟨w.heap.size, 0, none⟩), .pointer (some ⟨w.heap.size + 1, 0, none⟩)]) ∧
      w' = (w.alloc (.cells #[.slice a len cap] 38)).alloc (.cells #[.int .i64 64] 3) := by
  refine callsIn_of_wp Try.func43 rfl hf ?_ hro
  simp only [Try.ntmps43, List.size_toArray, List.length_cons, List.length_nil, Nat.reduceAdd, Nat.reduceSub, Array.replicate_succ, Array.replicate_zero, List.push_toArray, List.append_toArray, List.nil_append, List.cons_append]
  gi_wp2
  go_ret
  exact ⟨rfl, rfl⟩
/-- A part's number. -/
abbrev Part (K : Nat) := { c : Nat // c < K }
theorem chunk_stops (F : Fence) (n : Nat) (hf : F.fn 60) (hro : F.round = none) (hn : 1 ≤ n) (Bs Bn g n1 b off K cap : Nat) (hK : K ≤ 100000000) (hb : b < n1) (hbg : b ≠ g) (hs : Bs < n1) (hsg : Bs ≠ g) (ht : Bn < n1) (htg : Bn ≠ g)
    (w : World) (hn1 : n1 ≤ w.heap.size) (cs : w.cell? ⟨Bs, 0, none⟩ = some (.slice (some ⟨b, off, none⟩) (64 * K) cap)) (cn : w.cell? ⟨Bn, 0, none⟩ = some (.int .i64 64)) (hcap : 64 * K ≤ cap) (hcap2 : cap ≤ maxLen) :
    SeqStopsK F n Try.prog 60 #[.pointer (some ⟨Bs, 0, none⟩), .pointer (some ⟨Bn, 0, none⟩)] (fun x : Part K => #[Value.slice (some ⟨b, off + 64 * x.1, none⟩) 64 64]) (KeptBut g n1)
      (fun ys => ys.map (·.1) = List.range K) (fun _ => True) K w := fun l J Jx W hW hJ hJx hY h0 => by
  have cs' := (hW.cell (p := ⟨Bs, 0, none⟩) (Nat.lt_of_lt_of_le hs hn1)).trans cs
  have cn' := (hW.cell (p := ⟨Bn, 0, none⟩) (Nat.lt_of_lt_of_le ht hn1)).trans cn
  refine (chunk1_in F n hf hro hn l Bs Bn g n1 b off K cap hK hb hbg hs hsg ht htg (fun ys W => ∃ zs : List (Part K), zs.map (·.1) = ys ∧ J zs W) (fun ys W => ∃ zs : List (Part K), zs.map (·.1) = ys ∧ Jx zs W) ?_ W cs' cn' hcap hcap2 ?_ ⟨[], rfl, h0⟩).mono ?_
  · rintro pre x W1 ⟨zs, rfl, hJz⟩ hlen hx
    obtain ⟨fn, tmps, assign, body, hy, hR⟩ := hY zs ⟨x, hx⟩ W1 hJz (by simpa using hlen)
    refine ⟨fn, tmps, assign, body, hy, hR.mono ?_⟩
    rintro e W2 (⟨rfl, h1, h2⟩ | ⟨rfl, h1⟩)
    · exact .inl ⟨rfl, ⟨_, by simp, h1⟩, h2⟩
    · exact .inr ⟨rfl, ⟨_, by simp, h1⟩⟩
  · rintro s A B row ⟨zs, e, hs⟩ hg hr
    exact ⟨zs, e, hJ zs A B row hs hg hr⟩
  · rintro e W' ⟨he, ⟨ys, rfl, zs, e1, h1⟩ | ⟨pre, _, zs, e1, h1⟩⟩
    · exact ⟨he, .inl ⟨zs, e1, h1⟩⟩
    · exact ⟨he, .inr ⟨zs, trivial, h1⟩⟩
end Go.Proofs.Ytinkdkcmmjfhoaa
/- The sum of bytes, as numbers. -/
namespace Go.Proofs.Ytinkdkcmmjfhoaa
set_option linter.unusedVariables false
set_option linter.unusedSimpArgs false
/-- The first words. -/
def words0 : List (BitVec 32) := [0x6a09e667, 0xbb67ae85, 0x3c6ef372, 0xa54ff53a, 0x510e527f, 0x9b05688c, 0x1f83d9ab, 0x5be0cd19]
/-- The words behind 'k' parts. -/
def sumk (p : List Nat) : Nat → List (BitVec 32)
  | 0 => words0
  | k + 1 => compress (sumk p k) (p.drop (64 * k))
def wordByte (s : List (BitVec 32)) (i : Nat) : Nat := (wordAt s (i / 4)).toNat / 2 ^ (24 - 8 * (i % 4)) % 256
def outk (s : List (BitVec 32)) (k : Nat) : List Nat := (List.range 32).map fun i => if i < k then wordByte s i else 0
def sum (l : List Nat) : List Nat := outk (sumk (pad l) ((pad l).length / 64)) 32
theorem outk_len (s : List (BitVec 32)) (k : Nat) : (outk s k).length = 32 := by simp [outk]
theorem outk_0 (s : List (BitVec 32)) : outk s 0 = id0 := by
  unfold outk id0
  apply List.ext_getElem
  · simp
  · intro i h1 h2
    simp only [List.getElem_map, List.getElem_replicate, List.getElem_range]
    rw [if_neg (by omega)]
theorem outk_set (s : List (BitVec 32)) (k : Nat) : (outk s k).set k (wordByte s k) = outk s (k + 1) := by
  apply List.ext_getElem
  · simp [outk]
  · intro i h1 h2
    simp only [outk, List.getElem_set, List.getElem_map, List.getElem_range]
    split
    · subst_vars; simp
    · split
      · rw [if_pos (by omega)]
      · rw [if_neg (by omega)]
theorem wordByte_lt (s : List (BitVec 32)) (i : Nat) : wordByte s i < 256 := Nat.mod_lt _ (by omega)
theorem outk_lt (s : List (BitVec 32)) (k : Nat) : ∀ c ∈ outk s k, c < 256 := by
  intro c hc
  obtain ⟨i, _, rfl⟩ := List.mem_map.1 hc
  split
  · exact wordByte_lt s i
  · omega
theorem sum_len (l : List Nat) : (sum l).length = 32 := outk_len _ _
theorem sum_lt (l : List Nat) : ∀ c ∈ sum l, c < 256 := outk_lt _ _
theorem pad_mod (l : List Nat) : (pad l).length % 64 = 0 := by rw [pad_len]; omega
/-- The words behind some parts, in that order. -/
def sumOf (p : List Nat) (ks : List Nat) : List (BitVec 32) := ks.foldl (fun s k => compress s (p.drop (64 * k))) words0
theorem sumOf_snoc (p : List Nat) (ks : List Nat) (k : Nat) : sumOf p (ks ++ [k]) = compress (sumOf p ks) (p.drop (64 * k)) := by simp [sumOf]
theorem sumOf_range (p : List Nat) : ∀ k, sumOf p (List.range k) = sumk p k
  | 0 => rfl
  | k + 1 => by rw [List.range_succ, sumOf_snoc, sumOf_range p k]; rfl
theorem sumOf_len (p : List Nat) (ks : List Nat) : (sumOf p ks).length = 8 := by
  rcases List.eq_nil_or_concat ks with rfl | ⟨ini, x, rfl⟩
  · rfl
  · rw [List.concat_eq_append, sumOf_snoc]; exact compress_len _ _
theorem byteAt_drop (l : List Nat) (k j : Nat) : byteAt (l.drop k) j = byteAt l (k + j) := by simp [byteAt, List.getD]
end Go.Proofs.Ytinkdkcmmjfhoaa
/- sha.Sum. -/
namespace Go.Proofs.Ytinkdkcmmjfhoaa
set_option linter.unusedVariables false
set_option linter.unusedSimpArgs false
open Go.RowKit Go.Shelf
attribute [local go_sem] Oper.semAt_some
theorem pad_o (l : List Nat) (v : Value) (w : World) (hl : l.length ≤ 1073741824) (hv : Shows w v (bys l)) :
    Calls Try.prog 44 #[v] w fun e w' => ∃ b cap K, e = .returned (.slice (some ⟨b, 0, none⟩) (64 * K) cap) ∧ 64 * K = (pad l).length ∧ 64 * K ≤ cap ∧ cap ≤ maxLen ∧ w.heap.size ≤ b ∧ b < w'.heap.size ∧
      (∀ j, j < 64 * K → w'.cell? ⟨b, 0 + j, none⟩ = some (.int .u8 (byteAt (pad l) j : Nat))) ∧ Grew w w' := by
  refine (pad_w' l v w hl hv).mono ?_
  rintro e w' ⟨v', rfl, ho, hg⟩
  obtain ⟨K, hK⟩ : ∃ K, (pad l).length = 64 * K := ⟨(pad l).length / 64, by have := pad_mod l; omega⟩
  have hp := pad_len l
  rcases ho.2 with ⟨rfl, h0⟩ | ⟨b, cap, cur, rfl, hb, hh, hn, hm, hs, ht⟩
  · rw [bys_len] at h0; omega
  · rw [bys_len, hK] at ho hn ⊢
    refine ⟨b, cap, K, rfl, rfl, hn, hm, hb, (Array.getElem?_eq_some_iff.1 hh).1, fun j hj => ?_, hg⟩
    rw [Nat.zero_add, own_cell ho j (by rw [bys_len]; omega)]
    simp [bys, byteAt_eq _ j (show j < (pad l).length by omega)]
theorem own_grew {β : Type} (B : Nat) (f : β → World) (hB : ∀ s, (f s).heap.size = B) : OwnFrom B (fun s W => Grew (f s) W) := fun s W W' row hs hg hr => by
  have hb : Below (f s).heap.size (f s) W := hs.below
  exact Grew.of_below (hb.grown hg hb.size (fun k e => by rw [hB]; exact (hr k e).1))
theorem heap_setRow_other (w : World) (g : Nat) (cs : Array Value) (k : Nat) (h : k ≠ g) : (w.setRow g cs).heap[k]? = w.heap[k]? := by
  unfold World.setRow
  simp [Array.getElem?_modify, Ne.symm h]
/-- One part goes in. -/
theorem part_step (A W W' : World) (g B : Nat) (v v' : Array Value) (hg : g < A.heap.size) (hB : B = A.heap.size) (hf : A.rowFree g = true) (h : Grew (A.setRow g v) W) (h' : Grew (W.setRow g v') W') :
    KeepsFrom B W W' ∧ KeptBut g B W W' ∧ Grew (A.setRow g v') W' := by
  subst hB
  have hs : (A.setRow g v).heap.size = A.heap.size := setRow_size _ _ _
  have hW : g < W.heap.size := Nat.lt_of_lt_of_le hg (hs ▸ h.size)
  have key : ∀ k, k < W.heap.size → k ≠ g → W'.heap[k]? = W.heap[k]? := fun k hk hne => by
    rw [h'.heap (by rw [setRow_size]; exact hk), heap_setRow_other _ _ _ _ hne]
  refine ⟨⟨by have := h'.size; rw [setRow_size] at this; exact this, fun k o hk h0 ho => ?_⟩, fun k hk hne => key k (Nat.lt_of_lt_of_le hk (hs ▸ h.size)) hne, ?_⟩
  · rw [key k (Array.getElem?_eq_some_iff.1 h0).1 (by omega)]; exact h0
  · have h2 := Grew.setRow_old h g v' (by rw [hs]; exact hg)
    rw [setRow_setRow] at h2
    exact h2.trans h'
set_option maxRecDepth 100000 in
set_option maxHeartbeats 4000000 in
theorem sum_in (F : Fence) (n : Nat) (l : List Nat) (hF : F = .wide) (hn : 3 ≤ n) (v : Value) (w : World) (hl : l.length ≤ 1073741824) (hb : ∀ c ∈ l, c < 256) (hv : Shows w v (bys l)) :
    CallsIn F n Try.prog 23 #[v] w fun e w' => e = .returned (.agg (iv (sum l))) ∧ Grew w w' := by
  have h1 : 1 ≤ n := by omega
  have HV := Lib.hid hv
  clear hv
  refine callsIn_of_wp_marks Try.func23 rfl (by subst hF; trivial) ?_ (by subst hF; rfl)
  simp only [Try.ntmps23, List.size_toArray, List.length_cons, List.length_nil, Nat.reduceAdd, Nat.reduceSub, Array.replicate_succ, Array.replicate_zero, List.push_toArray, List.append_toArray, List.nil_append, List.cons_append]
  gi_wp2
  obtain ⟨w1, hw1⟩ : ∃ w1, ((w.alloc (Obj.cells (iv id0) 24)).alloc (Obj.cells (uv words0) 60)).alloc (Obj.cells #[.pointer (some ⟨w.heap.size + 1, 0, none⟩)] 57) = w1 := ⟨_, rfl⟩
  have hgw : Grew w w1 := by rw [← hw1]; exact (by repeat (first | with_reducible exact Grew.refl _ | with_reducible apply Grew.alloc | with_reducible apply Grew.grow | with_reducible apply Grew.drew | with_reducible apply Grew.drewN))
  have hsz : w1.heap.size = w.heap.size + 1 + 1 + 1 := by rw [← hw1]; simp
  have r1 : w1.rowAt w.heap.size = iv id0 ∧ w1.rowFree w.heap.size = true := by rw [← hw1]; constructor <;> simp [go_sem]
  have r2 : w1.rowAt (w.heap.size + 1) = uv words0 ∧ w1.rowFree (w.heap.size + 1) = true := by rw [← hw1]; constructor <;> simp [go_sem]
  have r3 : w1.cell? ⟨w.heap.size + 1 + 1, 0, none⟩ = some (.pointer (some ⟨w.heap.size + 1, 0, none⟩)) := by rw [← hw1]; simp [go_sem]
  have hwe : ((w.alloc (Obj.cells (iv id0) 24)).alloc (Obj.cells #[.int .u32 1779033703, .int .u32 3144134277, .int .u32 1013904242, .int .u32 2773480762, .int .u32 1359893119, .int .u32 2600822924, .int .u32 528734635, .int .u32 1541459225] 60)).alloc (Obj.cells #[.pointer (some ⟨w.heap.size + 1, 0, none⟩)] 57) = w1 := by
    rw [← hw1]; rfl
  rw [hwe]
  clear hw1 hwe
  refine ⟨trivial, (callsIn_wide.2 (pad_o l v w1 hl (HV.out.grew hgw))).mono ?_⟩
  rintro e w2 ⟨b, cap, K, rfl, hKl, hKc, hcap, hb1, hb2, hcs, hg12⟩
  obtain ⟨N, hN⟩ : ∃ N, 64 * K = N := ⟨_, rfl⟩
  have hg2 := hgw.trans hg12
  have hK : K ≤ 100000000 := by have := pad_len l; omega
  have q1 : w2.rowAt w.heap.size = iv id0 := by rw [Grew.rowAt hg12 _ (by omega)]; exact r1.1
  have q2 : w2.rowFree w.heap.size = true := by rw [Grew.rowFree hg12 _ (by omega)]; exact r1.2
  have q3 : w2.rowAt (w.heap.size + 1) = uv words0 := by rw [Grew.rowAt hg12 _ (by omega)]; exact r2.1
  have q4 : w2.rowFree (w.heap.size + 1) = true := by rw [Grew.rowFree hg12 _ (by omega)]; exact r2.2
  have q5 := hg12.cell r3
  have hs12 := hg12.size
  obtain ⟨r0, hr0⟩ : ∃ r0, w.heap.size = r0 := ⟨_, rfl⟩
  have HCS := Lib.hid hcs
  have HK := Lib.hid (And.intro hN (And.intro hKl hKc))
  rw [hN]
  clear hKl hKc hN
  have HG2 := Lib.hid hg2
  have Q := Lib.hid (And.intro q1 (And.intro q2 (And.intro q3 (And.intro q4 q5))))
  clear r1 r2 r3 q1 q2 q3 q4 q5 hcs hg2 hg12 hgw
  gi_wp2
  refine ⟨trivial, (chunk_in .wide (n - 1) trivial rfl _ _ _ _).mono ?_⟩
  rintro e w3 ⟨rfl, hw3⟩
  obtain ⟨q1, q2, q3, q4, q5⟩ := Q.out
  have hs3 : w3.heap.size = w2.heap.size + 1 + 1 := by rw [hw3]; simp
  have hg23 : Grew w2 w3 := by rw [hw3]; exact (by repeat (first | with_reducible exact Grew.refl _ | with_reducible apply Grew.alloc | with_reducible apply Grew.grow | with_reducible apply Grew.drew | with_reducible apply Grew.drewN))
  have hg3 := Lib.hid (HG2.out.trans hg23)
  have c1 : w3.cell? ⟨w2.heap.size, 0, none⟩ = some (.slice (some ⟨b, 0, none⟩) N cap) := by rw [hw3]; simp [go_sem]
  have c2 : w3.cell? ⟨w2.heap.size + 1, 0, none⟩ = some (.int .i64 64) := by rw [hw3]; simp [go_sem]
  have HCS3 := Lib.hid (fun j hj => hg23.cell (HCS.out j hj))
  have p1 : w3.rowAt w.heap.size = iv id0 := by rw [Grew.rowAt hg23 _ (by omega)]; exact q1
  have p2 : w3.rowFree w.heap.size = true := by rw [Grew.rowFree hg23 _ (by omega)]; exact q2
  have p3 : w3.rowAt (w.heap.size + 1) = uv words0 := by rw [Grew.rowAt hg23 _ (by omega)]; exact q3
  have p4 : w3.rowFree (w.heap.size + 1) = true := by rw [Grew.rowFree hg23 _ (by omega)]; exact q4
  have p5 := hg23.cell q5
  clear hw3 hg23 q1 q2 q3 q4 q5 Q HCS HG2
  rw [hr0] at p1 p2 p3 p4 p5 hsz
  have HR0 := Lib.hid hr0
  clear hr0
  gi_wp2
  refine wpIn_rangeFunc_ownG (by subst hF; rfl) h1 (gf := 60) (lb := #[.pointer (some ⟨w2.heap.size, 0, none⟩), .pointer (some ⟨w2.heap.size + 1, 0, none⟩)]) rfl (by subst hF; trivial) (enters_of Try.func60 (by kernel_rfl) rfl)
    (chunk_stops F (n - 1) (by subst hF; trivial) (by subst hF; rfl) (by omega) w2.heap.size (w2.heap.size + 1) (r0 + 1) w3.heap.size b 0 K cap hK (by omega) (by omega) (by omega) (by omega) (by omega) (by omega) w3 (Nat.le_refl _) (by rw [HK.out.1]; exact c1) c2 HK.out.2.2 hcap)
    (fun h k => h.trans k) (fun W l o o' hl h _ _ k hk hne => World.putObj_heap_other (by omega)) (Below.refl _ _) (fun _ => rfl)
    (fun pre W => Grew (w3.setRow (r0 + 1) (uv (sumOf (pad l) (pre.map (·.1))))) W) (fun _ _ _ => False) (own_grew _ _ (fun _ => setRow_size _ _ _)) (fun _ _ _ _ _ hs _ _ => hs)
    (by rw [show sumOf (pad l) (List.map (·.1) ([] : List (Part K))) = words0 from rfl, ← p3, setRow_same' _ _ p4]; exact Grew.refl _)
    (fun x => { tmps := #[v, undef, .pointer (some ⟨r0, 0, none⟩), .pointer (some ⟨r0 + 1 + 1, 0, none⟩), .slice (some ⟨b, 64 * x.1, none⟩) 64 64, undef, undef, .agg #[.int .u32 1779033703, .int .u32 3144134277, .int .u32 1013904242, .int .u32 2773480762, .int .u32 1359893119, .int .u32 2600822924, .int .u32 528734635, .int .u32 1541459225], .pointer (some ⟨r0 + 1, 0, none⟩), v, .slice (some ⟨b, 0, none⟩) N cap, .func (.func 60) #[] #[.pointer (some ⟨w2.heap.size, 0, none⟩), .pointer (some ⟨w2.heap.size + 1, 0, none⟩)], .slice (some ⟨b, 64 * x.1, none⟩) 64 64, undef, undef, undef, undef, undef, undef, undef, undef, undef, undef, undef, undef, undef, undef, undef, undef, undef, undef, undef, undef, undef, undef], defers := [] }) ?assign ?body ?done ?stop
  case assign =>
    intro l x W K hK
    gi_wp2
    exact hK
  case body =>
    rintro lb pre x W hI hlen
    subst hF
    obtain ⟨S, hS⟩ : ∃ S, sumOf (pad l) (pre.map (·.1)) = S := ⟨_, rfl⟩
    rw [hS] at hI
    have i1 : W.cell? ⟨r0 + 1 + 1, 0, none⟩ = some (.pointer (some ⟨r0 + 1, 0, none⟩)) := hI.cell (by rw [cell_setRow_other _ _ _ _ (by simp)]; exact p5)
    have i2 : W.rowAt (r0 + 1) = uv S := by rw [Grew.rowAt hI _ (by rw [setRow_size]; omega), rowAt_setRow_free _ _ _ p4]
    have i3 : W.rowFree (r0 + 1) = true := by rw [Grew.rowFree hI _ (by rw [setRow_size]; omega), rowFree_setRow_free _ _ _ p4]
    have hSl : S.length = 8 := by rw [← hS]; exact sumOf_len _ _
    have i4 : ∀ j, j < 64 → W.cell? ⟨b, 64 * x.1 + j, none⟩ = some (.int .u8 (byteAt ((pad l).drop (64 * x.1)) j : Nat)) := fun j hj => by
      rw [byteAt_drop]
      refine hI.cell ?_
      rw [cell_setRow_other _ _ _ _ (by show b ≠ _; omega)]
      have := HCS3.out (64 * x.1 + j) (by have := x.2; omega)
      rwa [Nat.zero_add] at this
    have HI := Lib.hid hI
    clear hI p1 p2 p3 c1 c2 hcap
    gi_wp2
    refine ⟨trivial, fun _ => by omega, (CallsIn.inRound lb (callsIn_wide.2 (add_w S ((pad l).drop (64 * x.1)) hSl (fun c hc => pad_lt l hb c (List.mem_of_mem_drop hc)) (r0 + 1) b (64 * x.1) 64 W i2 i3 (by omega) i4))).mono ?_⟩
    rintro e W' ⟨⟨u, rfl⟩, hg'⟩
    gi_wp2
    obtain ⟨k1, k2, k3⟩ := part_step w3 W W' (r0 + 1) w3.heap.size _ _ (by omega) rfl p4 HI.out hg'
    refine ⟨k1, k2, ?_⟩
    show Grew (w3.setRow (r0 + 1) (uv (sumOf (pad l) ((pre ++ [x]).map (·.1))))) W'
    rw [List.map_append, List.map_cons, List.map_nil, sumOf_snoc, hS]
    exact k3
  case done =>
    rintro D ys W hD hS hI HDD
    rw [hS, sumOf_range] at hI
    obtain ⟨S, hS2⟩ : ∃ S, sumk (pad l) K = S := ⟨_, rfl⟩
    rw [hS2] at hI
    have i1 : W.cell? ⟨r0 + 1 + 1, 0, none⟩ = some (.pointer (some ⟨r0 + 1, 0, none⟩)) := hI.cell (by rw [cell_setRow_other _ _ _ _ (by simp)]; exact p5)
    have i2 : W.rowAt (r0 + 1) = uv S := by rw [Grew.rowAt hI _ (by rw [setRow_size]; omega), rowAt_setRow_free _ _ _ p4]
    have i3 : W.rowFree (r0 + 1) = true := by rw [Grew.rowFree hI _ (by rw [setRow_size]; omega), rowFree_setRow_free _ _ _ p4]
    have hSl : S.length = 8 := by rw [← hS2, ← sumOf_range]; exact sumOf_len _ _
    have i5 : W.rowAt r0 = iv id0 := by rw [Grew.rowAt hI _ (by rw [setRow_size]; omega), rowAt_of_heap (heap_setRow_other _ _ _ _ (by omega))]; exact p1
    have i6 : W.rowFree r0 = true := by rw [Grew.rowFree hI _ (by rw [setRow_size]; omega), rowFree_of_heap (heap_setRow_other _ _ _ _ (by omega))]; exact p2
    have hgW : Grew w W := (Grew.setRow_new hg3.out (r0 + 1) _ (by have := HR0.out; omega)).trans hI
    have hsW : w3.heap.size ≤ W.heap.size := by have := hI.size; rw [setRow_size] at this; exact this
    have HGW := Lib.hid hgW
    have l0 : r0 < W.heap.size := by omega
    have l1 : r0 + 1 < W.heap.size := by omega
    have l2 : r0 + 1 + 1 < W.heap.size := by omega
    have i7 := fun (j : Nat) => show W.cell? ⟨r0 + 1, j, none⟩ = (uv S)[j]? by rw [cell_rowAt, i2]
    have HS := Lib.hid hS2
    clear hI p1 p2 p3 p4 p5 c1 c2 hcap hgW hS2 hS hg3 HCS3
    gi_wp2
    gi_loopw [16] (fun i wr => ∃ k : Nat, k ≤ 32 ∧ i = .int .i64 k ∧ wr = W.alloc (.cells (iv (outk S k)) 24)) (fun i _ => 32 - (intOf i).toNat)
    case atStart => exact ⟨0, by omega, rfl, by rw [outk_0]⟩
    case round =>
      obtain ⟨k, hk, rfl, rfl⟩ := hrel
      by_cases hn2 : k < 32
      · have hlt : (k : Int) < 32 := by omega
        have ho := outk_len S k
        have hos := outk_set S k
        obtain ⟨q, hq⟩ : ∃ q, 24 - 8 * (k % 4) = q := ⟨_, rfl⟩
        have hq1 : (24 : Int) - 8 * ((k : Int) % 4) = (q : Int) := by omega
        obtain ⟨q4, hq4⟩ : ∃ q4, k / 4 = q4 := ⟨_, rfl⟩
        have hd : (k : Int) / 4 = (q4 : Int) := by omega
        have hd2 : q4 < 8 := by omega
        have hd3 : (q4 : Int) < 8 := by omega
        have hu := uv_at S q4 (by omega)
        have hq5 : q ≤ 24 := by omega
        have hwb : u (wordAt S q4) / 2 ^ q % 256 = ((wordByte S k : Nat) : Int) := by
          unfold wordByte u; rw [hq, hq4, Int.natCast_emod, Int.natCast_ediv, Int.natCast_pow]; rfl
        have hat := iv_at (outk S k) k (by rw [ho]; omega)
        clear hk hn2 hq hq4
        gi_wp2
        exact ⟨⟨k + 1, by omega, by go_num, rfl⟩, by simp only [intOf]; omega⟩
      · obtain rfl : k = 32 := by omega
        clear hk hn2
        have ho := outk_len S 32
        gi_wp2
        have hDW : D < W.heap.size := (Array.getElem?_eq_some_iff.1 HDD).1
        have hDr : D ≠ r0 := by omega
        have e0 : w.heap.size = r0 := HR0.out
        have hD2 : ((W.setRow r0 (iv (outk S 32))).alloc (.cells (iv (outk S 32)) 24)).heap[D]? = some (.deferred (some [])) := by
          rw [Go.heap_alloc_old _ _ (by rw [setRow_size]; exact hDW), heap_setRow_other _ _ _ _ hDr]; exact HDD
        refine ⟨by simp, .inl ⟨_, _, rfl, run_takeDeferred hD2, ?_⟩⟩
        refine ⟨_, id_result rfl _ rfl (l := outk S 32) ?_ ho, ?_, ?_⟩
        · rw [rowAt_of_heap (World.putObj_heap_other (Ne.symm hDr)), rowAt_alloc_past _ _ _ (by rw [setRow_size]; exact l0), rowAt_setRow_free _ _ _ i6]
        · have hq := HK.out
          rw [sum, ← hq.2.1, Nat.mul_div_cancel_left _ (by omega), HS.out]
        · exact Grew.grown ((Grew.setRow_new HGW.out r0 _ (by omega)).alloc _) (grownBy_putObj' _ D (.deferred none)) (fun k e => by cases e; omega)
  case stop =>
    rintro D c pre W _ _ h _
    exact h.elim
theorem sum_w (l : List Nat) (v : Value) (w : World) (hl : l.length ≤ 1073741824) (hb : ∀ c ∈ l, c < 256) (hv : Shows w v (bys l)) :
    Calls Try.prog 23 #[v] w fun e w' => e = .returned (.agg (iv (sum l))) ∧ Grew w w' :=
  (callsIn_wide (n := 3)).1 (sum_in .wide 3 l rfl (Nat.le_refl _) v w hl hb hv)
end Go.Proofs.Ytinkdkcmmjfhoaa
/- What stands behind a call. -/
namespace Go.Proofs.Ytinkdkcmmjfhoaa
set_option linter.unusedVariables false
set_option linter.unusedSimpArgs false
open Go.ChangeShapes Go.WideShapes Go.ChangeAt Go.RowKit

/-- Behind a call that leaves what was as it was. -/
theorem post_of_old {H : Type} {enc : TypeId × Value → H} {P : Program} {f : Func} {s : ChangeSpec} {apart fresh handsOn again : Bool} {W W' : World} {args : Array Value} {v : Value} {ds gs : List (DataW H)} {before pa pv : List MemPlace}
    (hW : DataW.Whole enc P f.params.toList s.vars apart W args.toList ds gs before)
    (hres : ∀ (b : Nat) (sp : Nat → Bool) (hd : Bool), DataW.TrodAll enc P W' b sp hd f.resultTypes.toList (v.resultList f.resultTypes.size) (s.fn H (ds ++ gs)).results [])
    (hargs : ∀ sp : Nat → Bool, (∀ p ∈ before, sp p.block = true) → DataW.TrodAll enc P W' 0 sp true f.params.toList args.toList (s.fn H (ds ++ gs)).args pa)
    (hvars : ∀ sp : Nat → Bool, (∀ p ∈ before, sp p.block = true) → DataW.TrodVars enc P W' sp s.vars (s.fn H (ds ++ gs)).vars pv)
    (hps : before = pa ++ pv) (hg : Grew W W')
    (hok : ∀ (j : Nat) (t : TypeId) (r : Value), f.resultTypes[j]? = some t → (v.resultList f.resultTypes.size)[j]? = some r → Value.okWide P W' .any 0 t r) :
    s.post enc P f apart fresh handsOn again W args v W' := by
  have hlt := hW.lt
  have hold : ∀ p ∈ before, (fun b => decide (b < W.heap.size)) p.block = true := fun p hp => by simpa using hlt p hp
  refine ⟨ds, gs, before, [], pa, pv, hW, hres _ _ _, hargs _ hold, hvars _ hold, World.keptBut_mono (fun p hp => ⟨hp, ?_⟩) (hg.below.frame (· ∈ before)), fun _ => ?_⟩
  · rw [hps, List.mem_append] at hp
    exact Or.inr hp
  · obtain ⟨_, _, _, _, _, hz, hn⟩ := hW
    refine ⟨hok, _, _, ([] ++ pa) ++ pv, ⟨[] ++ pa, pv, trodAll_append (hargs _ (fun _ _ => rfl)) (hres _ _ _), hvars _ (fun _ _ => rfl), rfl, ?_, ?_⟩, ?_⟩
    · intro b off hp
      have hp' : MemPlace.cell b off ∈ before := by rw [hps]; simpa using hp
      obtain ⟨δ, rfl⟩ := hg
      have hb : b < W.heap.size := hlt _ hp'
      rw [frozen_grow_old _ _ _ _ _ hb]
      exact hz b off hp'
    · intro ha
      have := hn ha
      rw [hps] at this
      simpa using this
    · intro p hp _
      rw [hps]
      simpa using hp

theorem own : ownKnob Try.prog.godebug = none := by kernel_rfl
end Go.Proofs.Ytinkdkcmmjfhoaa
/- What is handed over reads behind a call as it did, where the call has laid new memory alone. No program's function in sight. -/
namespace Go.Proofs.Ytinkdkcmmjfhoaa
set_option linter.unusedVariables false
set_option linter.unusedSimpArgs false
open Go.ChangeShapes Go.WideShapes Go.ChangeAt Go.RowKit
theorem laidOut : laidOutB Try.prog = true := by kernel_rfl
theorem trodAll_stays {H : Type} {enc : TypeId × Value → H} {W W' : World} {sp : Nat → Bool} (hg : Grew W W') : ∀ (ts : List TypeId) {vs : List Value} {ds : List (DataW H)} {ps : List MemPlace},
    (∀ t ∈ ts, Try.prog.readableRec t = true ∧ t < Try.prog.types.size) → DataW.TrodAll enc Try.prog W 0 (fun _ => true) true ts vs ds ps → (∀ x ∈ ps, x.block < W.heap.size) → (∀ x ∈ ps, sp x.block = true) →
    DataW.TrodAll enc Try.prog W' 0 sp true ts vs ds ps
  | [], vs, ds, ps, _, h, _, _ => by
    obtain ⟨rfl, rfl, rfl⟩ := trodAll_nil h
    exact trodAll_mk0
  | t :: ts, vs, ds, ps, ht, h, hl, hs => by
    obtain ⟨v, vs', d, ds', p, q, rfl, rfl, rfl, h0, h1⟩ := trodAll_cons h
    have e := ht t (by simp)
    have hb := hg.below
    refine trodAll_cons_mk (WideElems.Trod_stays laidOut e.1 e.2 h0 (fun x hx => hb.same (hl x (by simp [hx]))) (fun x hx => hs x (by simp [hx]))) ?_
    exact trodAll_stays hg ts (fun t h => ht t (by simp [h])) h1 (fun x hx => hl x (by simp [hx])) (fun x hx => hs x (by simp [hx]))
theorem types_ok (ts : List TypeId) (h : (ts.all fun t => Try.prog.readableRec t && decide (t < Try.prog.types.size)) = true) : ∀ t ∈ ts, Try.prog.readableRec t = true ∧ t < Try.prog.types.size := fun t ht => by
  have := List.all_eq_true.1 h t ht
  simpa [Bool.and_eq_true, decide_eq_true_eq] using this
/-- Behind a call that leaves what was as it was. -/
theorem post_of_stays {H : Type} {enc : TypeId × Value → H} {f : Func} {s : ChangeSpec} {apart fresh handsOn again : Bool} {W W' : World} {args : Array Value} {v : Value} {ds gs : List (DataW H)} {pa : List MemPlace}
    (hW : DataW.Whole enc Try.prog f.params.toList s.vars apart W args.toList ds gs pa) (hvars0 : s.vars = [])
    (hA : DataW.TrodAll enc Try.prog W 0 (fun _ => true) true f.params.toList args.toList ds pa)
    (hty : ∀ t ∈ f.params.toList, Try.prog.readableRec t = true ∧ t < Try.prog.types.size)
    (hargs : (s.fn H (ds ++ gs)).args = ds) (hvarsd : (s.fn H (ds ++ gs)).vars = [])
    (hres : ∀ (b : Nat) (sp : Nat → Bool) (hd : Bool), DataW.TrodAll enc Try.prog W' b sp hd f.resultTypes.toList (v.resultList f.resultTypes.size) (s.fn H (ds ++ gs)).results [])
    (hg : Grew W W')
    (hok : ∀ (j : Nat) (t : TypeId) (r : Value), f.resultTypes[j]? = some t → (v.resultList f.resultTypes.size)[j]? = some r → Value.okWide Try.prog W' .any 0 t r) :
    s.post enc Try.prog f apart fresh handsOn again W args v W' :=
  post_of_old (pa := pa) (pv := []) hW hres (fun sp hsp => by rw [hargs]; exact trodAll_stays hg _ hty hA hW.lt hsp) (fun sp hsp => by rw [hvarsd, hvars0]; exact rfl) (by simp) hg hok
end Go.Proofs.Ytinkdkcmmjfhoaa
/- How the reader reads bytes. -/
namespace Go.Proofs.Ytinkdkcmmjfhoaa
set_option linter.unusedVariables false
set_option linter.unusedSimpArgs false
open Go.ChangeShapes Go.WideShapes Go.ChangeAt Go.RowKit
theorem cells8 : Try.prog.cellsOf 5 = 1 := by kernel_rfl
theorem u8_nat {a : Int} (h : (Lit.int .u8 a).wf = true) : ∃ n : Nat, a = n ∧ n < 256 := by
  have hx := bounds_u8 h
  exact ⟨a.toNat, by omega, by omega⟩
theorem u32_nat {a : Int} (h : (Lit.int .u32 a).wf = true) : ∃ n : Nat, a = n ∧ n < 4294967296 := by
  have hx := bounds_u32 h
  exact ⟨a.toNat, by omega, by omega⟩
theorem wf_u8 (n : Nat) (h : n < 256) : (Lit.int .u8 (n : Int)).wf = true := by
  simp [Lit.wf, IntKind.min, IntKind.max, IntKind.signed, IntKind.bits]; omega

theorem bytes_of_trod {H : Type} {enc : TypeId × Value → H} {W : World} {base m : Nat} {sp : Nat → Bool} {cs : List Value} {xs : List (DataW H × List MemPlace)} (hl : xs.length = cs.length)
    (h : ∀ (i : Nat), i < cs.length → DataW.trod enc Try.prog W base sp true m 5 ((cs.drop i).take 1) = xs[i]?) :
    ∃ l : List Nat, cs = l.map (fun (c : Nat) => Value.int .u8 (c : Int)) ∧ (∀ c ∈ l, c < 256) ∧ xs = l.map (fun (c : Nat) => (.lit (.int .u8 (c : Int)), [])) := by
  induction cs generalizing xs with
  | nil =>
    have : xs = [] := List.length_eq_zero_iff.1 hl
    exact ⟨[], rfl, by simp, by rw [this]; rfl⟩
  | cons c cs ih =>
    cases xs with
    | nil => simp at hl
    | cons x xs =>
      have h0 := h 0 (by simp)
      simp only [List.drop_zero, List.take_succ_cons, List.take_zero, List.getElem?_cons_zero] at h0
      obtain ⟨n, e1, e2, wf⟩ := DataW.trod_int Try.underlying5 h0
      simp only [List.cons.injEq, and_true] at e1
      obtain ⟨k, rfl, hk⟩ := u8_nat wf
      obtain ⟨l, hl1, hl2, hl3⟩ := ih (xs := xs) (by simpa using hl) fun i hi => by
        have := h (i + 1) (by simp; omega)
        simpa using this
      exact ⟨k :: l, by rw [e1, hl1]; rfl, by simp [hk]; exact hl2, by rw [e2, hl3]; rfl⟩
end Go.Proofs.Ytinkdkcmmjfhoaa
/- An argument of bytes, opened. -/
namespace Go.Proofs.Ytinkdkcmmjfhoaa
set_option linter.unusedVariables false
set_option linter.unusedSimpArgs false
open Go.ChangeShapes Go.WideShapes Go.ChangeAt Go.RowKit
theorem cellsU8 : Try.prog.cellsOf 5 = 1 := by kernel_rfl
/-- Cells of bytes, as numbers. -/
theorem bytes_nat : ∀ (zs : List Int), (∀ n ∈ zs, (Lit.int .u8 n).wf = true) → ∃ l : List Nat, zs = l.map (fun (c : Nat) => (c : Int)) ∧ ∀ c ∈ l, c < 256
  | [], _ => ⟨[], rfl, by simp⟩
  | z :: zs, h => by
    obtain ⟨n, rfl, hn⟩ := u8_nat (h z (by simp))
    obtain ⟨l, rfl, hl⟩ := bytes_nat zs (fun n hn => h n (by simp [hn]))
    exact ⟨n :: l, rfl, by intro c hc; rcases List.mem_cons.1 hc with rfl | hc; exact hn; exact hl c hc⟩
theorem plain_of_cell {w : World} {a : Addr} {v : Value} (h : w.cell? a = some v) : a = ⟨a.block, a.off, none⟩ ∧ a.block < w.heap.size := by
  refine ⟨?_, World.block_lt_of_cell? w a h⟩
  cases a with
  | mk b o s =>
    cases s with
    | none => rfl
    | some s =>
      exfalso
      simp only [World.cell?] at h
      split at h <;> simp at h
/-- What is shown by cells at whatever address. -/
theorem shows_of_cells {w : World} {a : Addr} {c : Nat} {xs : List Value} (h : ∀ j u, xs[j]? = some u → w.cell? (a.add j) = some u) : Shows w (.slice (some a) xs.length c) xs := by
  cases hx : xs with
  | nil => exact .inr ⟨_, _, rfl, rfl⟩
  | cons x r =>
    rw [hx] at h
    have h0 := h 0 x rfl
    have ha : a.add 0 = a := by unfold Addr.add; simp
    rw [ha] at h0
    obtain ⟨e, hb⟩ := plain_of_cell h0
    refine .inl ⟨a.block, a.off, c, by rw [e], hb, fun j u hj => ?_⟩
    have := h j u hj
    rw [e, add_off] at this
    exact this
theorem open_bytes {H : Type} {enc : TypeId × Value → H} {W : World} {v : Value} {d : DataW H} {p : List MemPlace} (h : DataW.Trod enc Try.prog W 0 (fun _ => true) true 38 v d p) (hv : v.cells = #[v]) :
    ∃ (q : Option Addr) (c : Nat) (l : List Nat), v = .slice q l.length c ∧ (∀ x ∈ l, x < 256) ∧ l.length ≤ maxLen ∧ Shows W (.slice q l.length c) (bys l) := by
  obtain ⟨fuel, hf⟩ := h
  rw [hv] at hf
  rcases open_ints Try.underlying38 Try.underlying5 cellsU8 hf with ⟨hcs, _⟩ | ⟨a, len, cap, zs, hcs, _, hl, hm, hz, _, hcell, hwz⟩
  · obtain rfl : v = .slice none 0 0 := by simpa using hcs
    exact ⟨none, 0, [], rfl, by simp, by simp, .inr ⟨_, _, rfl, rfl⟩⟩
  · obtain rfl : v = .slice (some a) len cap := by simpa using hcs
    simp only [if_true] at hz
    obtain ⟨l, rfl, hlb⟩ := bytes_nat zs hwz
    have hl2 : (l.take len).length = len := by rw [List.length_take]; rw [List.length_map] at hz; omega
    refine ⟨some a, cap, l.take len, by rw [hl2], fun x hx => hlb x (List.mem_of_mem_take hx), by omega, ?_⟩
    have := shows_of_cells (w := W) (a := a) (c := cap) (xs := bys (l.take len)) (fun j u hj => by
      have hj2 : j < (l.take len).length := by
        have := (List.getElem?_eq_some_iff.1 hj).1
        rwa [bys_len] at this
      rw [hl2] at hj2
      rw [List.length_map] at hz hcell
      rw [hcell j (by omega)]
      have hj3 : j < l.length := by omega
      simp only [bys, List.getElem?_map, List.getElem?_take, if_pos hj2, List.getElem?_eq_getElem hj3, Option.map_some, Option.some.injEq] at hj
      rw [← hj]
      simp [List.getD, hj3])
    rwa [bys_len] at this
end Go.Proofs.Ytinkdkcmmjfhoaa
/- An argument of slices of bytes, opened. -/
namespace Go.Proofs.Ytinkdkcmmjfhoaa
set_option linter.unusedVariables false
set_option linter.unusedSimpArgs false
open Go.ChangeShapes Go.WideShapes Go.ChangeAt Go.RowKit
/-- The slice shows slices of these bytes. -/
def RowsAt (w : World) (v : Value) (ls : List (List Nat)) : Prop := ∃ vs : List Value, vs.length = ls.length ∧ Shows w v vs ∧ ∀ k, k < ls.length → Shows w (vs.getD k undef) (bys (ls.getD k []))
theorem RowsAt.grew {w w' : World} {v : Value} {ls : List (List Nat)} (h : RowsAt w v ls) (g : Grew w w') : RowsAt w' v ls := by
  obtain ⟨vs, h1, h2, h3⟩ := h
  exact ⟨vs, h1, h2.grew g, fun k hk => (h3 k hk).grew g⟩
theorem cellsBs : Try.prog.cellsOf 38 = 1 := by kernel_rfl
theorem open_rows {H : Type} {enc : TypeId × Value → H} {W : World} {v : Value} {d : DataW H} {p : List MemPlace} (h : DataW.Trod enc Try.prog W 0 (fun _ => true) true 77 v d p) (hv : v.cells = #[v]) :
    ∃ (q : Option Addr) (c : Nat) (ls : List (List Nat)), v = .slice q ls.length c ∧ (∀ l ∈ ls, ∀ x ∈ l, x < 256) ∧ (ls.length ≤ maxLen ∧ ∀ l ∈ ls, l.length ≤ maxLen) ∧ RowsAt W (.slice q ls.length c) ls := by
  obtain ⟨fuel, hf⟩ := h
  rw [hv] at hf
  rcases Deep.open_int_rows Try.underlying77 Try.underlying38 Try.underlying5 cellsBs cellsU8 hf with ⟨hcs, _⟩ | ⟨a, len, cap, A, L, C, Z, hcs, _, hl, hm, _, hr⟩
  · obtain rfl : v = .slice none 0 0 := by simpa using hcs
    exact ⟨none, 0, [], rfl, by simp, ⟨by simp, by simp⟩, [], rfl, .inr ⟨_, _, rfl, rfl⟩, by simp⟩
  · obtain rfl : v = .slice (some a) len cap := by simpa using hcs
    have each : ∀ r, r < cap → ∃ l : List Nat, l.length = L r ∧ (∀ x ∈ l, x < 256) ∧ l.length ≤ maxLen ∧ Shows W (.slice (A r) (L r) (C r)) (bys l) := fun r hr' => by
      obtain ⟨_, h1, h2, h3, h4, h5, h6⟩ := hr r hr'
      obtain ⟨l, hlz, hlb⟩ := bytes_nat (Z r) h4
      have hll : l.length = C r := by rw [← h3, hlz, List.length_map]
      have htl : (l.take (L r)).length = L r := by rw [List.length_take]; omega
      refine ⟨l.take (L r), htl, fun x hx => hlb x (List.mem_of_mem_take hx), by omega, ?_⟩
      cases hA : A r with
      | none =>
        have hc0 := h5 hA
        have hl0 : L r = 0 := by omega
        rw [hl0, List.take_zero]
        exact .inr ⟨_, _, rfl, rfl⟩
      | some a' =>
        obtain ⟨_, hcell⟩ := h6 a' hA
        have := shows_of_cells (w := W) (a := a') (c := C r) (xs := bys (l.take (L r))) (fun j u hj => by
          have hj2 : j < (l.take (L r)).length := by
            have := (List.getElem?_eq_some_iff.1 hj).1
            rwa [bys_len] at this
          rw [htl] at hj2
          rw [hcell j (by omega), hlz]
          have hj3 : j < l.length := by omega
          simp only [bys, List.getElem?_map, List.getElem?_take, if_pos hj2, List.getElem?_eq_getElem hj3, Option.map_some, Option.some.injEq] at hj
          rw [← hj]
          simp [List.getD, hj3])
        rwa [bys_len, htl] at this
    have pick : ∀ n, n ≤ len → ∃ ls : List (List Nat), ls.length = n ∧ ∀ r, r < n → (ls.getD r []).length = L r ∧ (∀ x ∈ ls.getD r [], x < 256) ∧ (ls.getD r []).length ≤ maxLen ∧ Shows W (.slice (A r) (L r) (C r)) (bys (ls.getD r [])) := by
      intro n
      induction n with
      | zero => exact fun _ => ⟨[], rfl, by omega⟩
      | succ n ih =>
        intro hn
        obtain ⟨ls, h1, h2⟩ := ih (by omega)
        obtain ⟨l, h3⟩ := each n (by omega)
        refine ⟨ls ++ [l], by simp [h1], fun r hr' => ?_⟩
        rcases Nat.lt_or_ge r n with h | h
        · have : (ls ++ [l]).getD r [] = ls.getD r [] := by simp [List.getD, List.getElem?_append_left (show r < ls.length by omega)]
          rw [this]; exact h2 r h
        · obtain rfl : r = n := by omega
          have : (ls ++ [l]).getD r [] = l := by simp [List.getD, ← h1]
          rw [this]; exact h3
    obtain ⟨ls, hls, hr2⟩ := pick len (Nat.le_refl _)
    have hmem : ∀ l ∈ ls, ∃ r, r < len ∧ ls.getD r [] = l := fun l hl' => by
      obtain ⟨r, hr', e⟩ := List.getElem_of_mem hl'
      exact ⟨r, by omega, by simp [List.getD, hr', e]⟩
    refine ⟨some a, cap, ls, by rw [hls], fun l hl' => ?_, ⟨by omega, fun l hl' => ?_⟩, (List.range len).map (fun r => .slice (A r) (L r) (C r)), by simp [hls], ?_, fun k hk => ?_⟩
    · obtain ⟨r, hr', rfl⟩ := hmem l hl'
      exact (hr2 r hr').2.1
    · obtain ⟨r, hr', rfl⟩ := hmem l hl'
      exact (hr2 r hr').2.2.1
    · have := shows_of_cells (w := W) (a := a) (c := cap) (xs := (List.range len).map (fun r => Value.slice (A r) (L r) (C r))) (fun j u hj => by
        have hj2 : j < len := by have := (List.getElem?_eq_some_iff.1 hj).1; simpa using this
        rw [(hr j (by omega)).1]
        simpa [hj2] using hj)
      rw [List.length_map, List.length_range] at this
      rw [hls]; exact this
    · rw [hls] at hk
      have : ((List.range len).map (fun r => Value.slice (A r) (L r) (C r))).getD k undef = .slice (A k) (L k) (C k) := by simp [List.getD, hk]
      rw [this]
      exact (hr2 k hk).2.2.2
end Go.Proofs.Ytinkdkcmmjfhoaa
/- sha.Of. -/
namespace Go.Proofs.Ytinkdkcmmjfhoaa
set_option linter.unusedVariables false
set_option linter.unusedSimpArgs false
open Go.RowKit
set_option maxRecDepth 100000 in
set_option maxHeartbeats 1600000 in
theorem of_w (ls : List (List Nat)) (v : Value) (w : World) (hb : ∀ l ∈ ls, ∀ x ∈ l, x < 256) (hn : ls.length ≤ 1000000) (hl : ls.flatten.length ≤ 1073741824) (hv : RowsAt w v ls) :
    Calls Try.prog 38 #[v] w fun e w' => e = .returned (.agg (iv (sum ls.flatten))) ∧ Grew w w' := by
  have HV := Lib.hid hv
  clear hv
  go_enter Try.func38, Try.ntmps38
  go_wp2_with (go_at_call 58; refine stop_of ?_)
  unfold Stop
  obtain ⟨vs, h1, h2, h3⟩ := HV.out
  have g0 : Grew w (w.alloc (.cells (iv id0) 24)) := (by repeat (first | with_reducible exact Grew.refl _ | with_reducible apply Grew.alloc | with_reducible apply Grew.grow | with_reducible apply Grew.drew | with_reducible apply Grew.drewN))
  refine (concat_w ls vs v _ h1 (h2.grew g0) (fun k hk => (h3 k hk).grew g0) (by omega) (by omega)).mono ?_
  rintro e w2 ⟨v2, rfl, ho, hg⟩
  have HO := Lib.hid ho.shows
  have HG := Lib.hid (g0.trans hg)
  have r1 : w2.rowAt w.heap.size = iv id0 := by rw [Grew.rowAt hg _ (by simp)]; simp [go_sem]
  have r2 : w2.rowFree w.heap.size = true := by rw [Grew.rowFree hg _ (by simp)]; simp [go_sem]
  have hlt : w.heap.size < w2.heap.size := by have := hg.size; simp at this; omega
  have hbf : ∀ c ∈ ls.flatten, c < 256 := fun c hc => by
    obtain ⟨l, hl1, hl2⟩ := List.mem_flatten.1 hc
    exact hb l hl1 c hl2
  have HB := Lib.hid hbf
  have hsl := sum_len ls.flatten
  clear ho hg g0 h2 h3 hbf HV hb
  go_wp2_with (go_at_call 23; refine (sum_w ls.flatten _ _ hl HB.out HO.out).mono ?_; rintro e w' ⟨rfl, δ, rfl⟩)
  refine bodyPost_ret (id_result rfl _ rfl (l := sum ls.flatten) ?_ hsl) rfl ⟨rfl, ?_⟩
  · rw [rowAt_grow_old _ _ _ (by rw [setRow_size]; exact hlt), rowAt_setRow_free _ _ _ r2]
  · exact (Grew.setRow_new HG.out _ _ (Nat.le_refl _)).grow _
end Go.Proofs.Ytinkdkcmmjfhoaa
/- tree's text, Node, Leaf. -/
namespace Go.Proofs.Ytinkdkcmmjfhoaa
set_option linter.unusedVariables false
set_option linter.unusedSimpArgs false
open Go.RowKit
/-- What Node sums. -/
def textL (a b : List Nat) : List Nat := 1 :: (a ++ b)
def Idb.sum (l : List Nat) : Idb := ⟨Go.Proofs.Ytinkdkcmmjfhoaa.sum l, sum_len l, sum_lt l⟩
def Idb.node (a b : Idb) : Idb := Idb.sum (textL a.l b.l)
def Idb.leaf (l : List Nat) : Idb := Idb.sum (0 :: l)
theorem text_lt (a b : Idb) : ∀ c ∈ textL a.l b.l, c < 256 := by
  intro c hc
  simp only [textL, List.mem_cons, List.mem_append] at hc
  rcases hc with rfl | hc | hc
  · omega
  · exact a.lt c hc
  · exact b.lt c hc
theorem text_len (a b : Idb) : (textL a.l b.l).length = 65 := by simp [textL, a.len, b.len]
theorem shows_half {w : World} {g : Nat} {a b : List Nat} (hg : g < w.heap.size) (h : w.rowAt g = iv (a ++ b)) (ha : a.length = 32) (hb : b.length = 32) : Shows w (.slice (some ⟨g, 0, none⟩) 32 32) (bys a) ∧ Shows w (.slice (some ⟨g, 32, none⟩) 32 32) (bys b) := by
  have hc : ∀ i, i < 64 → w.cell? ⟨g, i, none⟩ = (bys (a ++ b))[i]? := fun i hi => by
    rw [cell_rowAt, h, ← bys_iv, List.getElem?_toArray]
  constructor
  · have : Shows w (.slice (some ⟨g, 0, none⟩) (bys a).length 32) (bys a) := .inl ⟨g, 0, 32, rfl, hg, fun j u hj => by
      have hj2 : j < 32 := by have := (List.getElem?_eq_some_iff.1 hj).1; rwa [bys_len, ha] at this
      rw [Nat.zero_add, hc j (by omega), bys_append, List.getElem?_append_left (by rw [bys_len]; omega)]; exact hj⟩
    rwa [bys_len, ha] at this
  · have : Shows w (.slice (some ⟨g, 32, none⟩) (bys b).length 32) (bys b) := .inl ⟨g, 32, 32, rfl, hg, fun j u hj => by
      have hj2 : j < 32 := by have := (List.getElem?_eq_some_iff.1 hj).1; rwa [bys_len, hb] at this
      rw [hc (32 + j) (by omega), bys_append, List.getElem?_append_right (by rw [bys_len]; omega), bys_len, ha, show 32 + j - 32 = j by omega]; exact hj⟩
    rwa [bys_len, hb] at this
theorem shows_rows3 (X : World) (v1 v2 v3 : Value) (t : TypeId) : Shows (X.alloc (.cells #[v1, v2, v3] t)) (.slice (some ⟨X.heap.size, 0, none⟩) 3 3) [v1, v2, v3] := shows_alloc X [v1, v2, v3] t 3
theorem text_cat (a b : Idb) (w : World) (x y z : Junk) :
    Calls Try.prog 58 #[.slice (some ⟨w.heap.size + 1 + x.n + 1 + y.n, 0, none⟩) 3 3]
      ((((((w.alloc (.cells (iv (pair a.l b.l)) 54)).grow x).alloc (.cells #[.int .u8 1] 5)).grow y).alloc (.cells #[.slice (some ⟨w.heap.size + 1 + x.n, 0, none⟩) 1 1, .slice (some ⟨w.heap.size, 0, none⟩) 32 32, .slice (some ⟨w.heap.size, 32, none⟩) 32 32] 38)).grow z)
      fun e w' => ∃ v, e = .returned v ∧ OwnR w' w.heap.size 5 v (bys (textL a.l b.l)) ∧
        Grew ((((((w.alloc (.cells (iv (pair a.l b.l)) 54)).grow x).alloc (.cells #[.int .u8 1] 5)).grow y).alloc (.cells #[.slice (some ⟨w.heap.size + 1 + x.n, 0, none⟩) 1 1, .slice (some ⟨w.heap.size, 0, none⟩) 32 32, .slice (some ⟨w.heap.size, 32, none⟩) 32 32] 38)).grow z) w' := by
  obtain ⟨X1, hX1⟩ : ∃ X, w.alloc (.cells (iv (pair a.l b.l)) 54) = X := ⟨_, rfl⟩
  have s1 : X1.heap.size = w.heap.size + 1 := by rw [← hX1]; simp
  have r1 : X1.rowAt w.heap.size = iv (a.l ++ b.l) := by rw [← hX1]; simp [go_sem, pair]
  have g0 : Grew w X1 := by rw [← hX1]; exact (by repeat (first | with_reducible exact Grew.refl _ | with_reducible apply Grew.alloc | with_reducible apply Grew.grow | with_reducible apply Grew.drew | with_reducible apply Grew.drewN))
  rw [hX1]
  have p1 := shows_half (by omega) r1 a.len b.len
  have s2 : (X1.grow x).heap.size = w.heap.size + 1 + x.n := by rw [size_grow, s1]
  have o1 := shows_one (X1.grow x) (.int .u8 1) 5 1
  rw [s2] at o1
  obtain ⟨X2, hX2⟩ : ∃ X, (X1.grow x).alloc (.cells #[.int .u8 1] 5) = X := ⟨_, rfl⟩
  have g1 : Grew X1 X2 := by rw [← hX2]; exact (by repeat (first | with_reducible exact Grew.refl _ | with_reducible apply Grew.alloc | with_reducible apply Grew.grow | with_reducible apply Grew.drew | with_reducible apply Grew.drewN))
  have s3 : X2.heap.size = w.heap.size + 1 + x.n + 1 := by rw [← hX2, World.size_alloc, s2]
  rw [hX2] at o1 ⊢
  have s4 : (X2.grow y).heap.size = w.heap.size + 1 + x.n + 1 + y.n := by rw [size_grow, s3]
  have o2 := shows_rows3 (X2.grow y) (.slice (some ⟨w.heap.size + 1 + x.n, 0, none⟩) 1 1) (.slice (some ⟨w.heap.size, 0, none⟩) 32 32) (.slice (some ⟨w.heap.size, 32, none⟩) 32 32) 38
  rw [s4] at o2
  obtain ⟨X3, hX3⟩ : ∃ X, (X2.grow y).alloc (.cells #[.slice (some ⟨w.heap.size + 1 + x.n, 0, none⟩) 1 1, .slice (some ⟨w.heap.size, 0, none⟩) 32 32, .slice (some ⟨w.heap.size, 32, none⟩) 32 32] 38) = X := ⟨_, rfl⟩
  have g2 : Grew X2 X3 := by rw [← hX3]; exact (by repeat (first | with_reducible exact Grew.refl _ | with_reducible apply Grew.alloc | with_reducible apply Grew.grow | with_reducible apply Grew.drew | with_reducible apply Grew.drewN))
  rw [hX3] at o2 ⊢
  have g3 : Grew X3 (X3.grow z) := ⟨z, rfl⟩
  have hfl : ([[1], a.l, b.l] : List (List Nat)).flatten = textL a.l b.l := by simp [textL]
  refine (concat_w [[1], a.l, b.l] _ _ _ rfl (o2.grew g3) ?_ (by rw [hfl, text_len]; omega) (by simp)).mono ?_
  · intro k hk
    have hk : k < 3 := hk
    match k, hk with
    | 0, _ => exact (o1.grew g2).grew g3
    | 1, _ => exact ((p1.1.grew g1).grew g2).grew g3
    | 2, _ => exact ((p1.2.grew g1).grew g2).grew g3
  · rintro e w' ⟨v, rfl, ho, hg⟩
    rw [hfl] at ho
    exact ⟨v, rfl, ho.base (((g0.trans g1).trans g2).trans g3).size, hg⟩
set_option maxRecDepth 100000 in
set_option maxHeartbeats 1600000 in
theorem text_w (a b : Idb) (w : World) : Calls Try.prog 42 #[.agg (iv (pair a.l b.l))] w fun e w' => ∃ v, e = .returned v ∧ OwnR w' w.heap.size 5 v (bys (textL a.l b.l)) ∧ Grew w w' := by
  have la := a.len
  have lb := b.len
  go_enter Try.func42, Try.ntmps42
  go_wp2
  refine wp_region_flow (by kernel_rfl) ?_
  intro δf
  apply wpFlow_quiets [1,2,3,4] (by decide +kernel) (by decide +kernel) (by kernel_rfl) (by intro _ _ _ d _ h; cases d <;> exact h) _
  · intro A hA δ'
    simp only [pickOps_cons, pickOps_nil, pick1_zero, pick1_succ]
    repeat (go_big_quiet_step ((fail)))
    exact wpQuiet_nil hA.out.symm
  refine wpFlow_one 0 (by decide +kernel) (by kernel_rfl) (by kernel_rfl) ?_
  refine wpFlowS_intro ?_
  simp only [pickOps_cons, pickOps_nil, pick1_zero, pick1_succ]
  intro δf
  go_wp2_with (fail)
  refine ⟨(by first | assumption | (simp only [grow_grow, Array.append_assoc]; assumption) | exact Grew.refl _ | (simp only [grow_grow, Array.append_assoc]; exact (by repeat (first | with_reducible exact Grew.refl _ | with_reducible apply Grew.alloc | with_reducible apply Grew.grow | with_reducible apply Grew.drew | with_reducible apply Grew.drewN))) | exact (by repeat (first | with_reducible exact Grew.refl _ | with_reducible apply Grew.alloc | with_reducible apply Grew.grow | with_reducible apply Grew.drew | with_reducible apply Grew.drewN))), ?_⟩
  refine wpFlow_one 5 (by decide +kernel) (by kernel_rfl) (by kernel_rfl) ?_
  refine wpFlowS_intro ?_
  simp only [pickOps_cons, pickOps_nil, pick1_zero, pick1_succ]
  intro δf
  go_wp2_with (fail)
  refine ⟨(by first | assumption | (simp only [grow_grow, Array.append_assoc]; assumption) | exact Grew.refl _ | (simp only [grow_grow, Array.append_assoc]; exact (by repeat (first | with_reducible exact Grew.refl _ | with_reducible apply Grew.alloc | with_reducible apply Grew.grow | with_reducible apply Grew.drew | with_reducible apply Grew.drewN))) | exact (by repeat (first | with_reducible exact Grew.refl _ | with_reducible apply Grew.alloc | with_reducible apply Grew.grow | with_reducible apply Grew.drew | with_reducible apply Grew.drewN))), ?_⟩
  refine wpFlow_one 6 (by decide +kernel) (by kernel_rfl) (by kernel_rfl) ?_
  refine wpFlowS_intro ?_
  simp only [pickOps_cons, pickOps_nil, pick1_zero, pick1_succ]
  intro δf
  go_wp2_with (go_at_call 58; refine (text_cat a b w _ _ _).mono ?_; rintro e w2 ⟨v, rfl, ho, hg⟩)
  refine ⟨(by first | assumption | (simp only [grow_grow, Array.append_assoc]; assumption) | exact Grew.refl _ | (simp only [grow_grow, Array.append_assoc]; exact (by repeat (first | with_reducible exact Grew.refl _ | with_reducible apply Grew.alloc | with_reducible apply Grew.grow | with_reducible apply Grew.drew | with_reducible apply Grew.drewN))) | exact (by repeat (first | with_reducible exact Grew.refl _ | with_reducible apply Grew.alloc | with_reducible apply Grew.grow | with_reducible apply Grew.drew | with_reducible apply Grew.drewN))), ?_⟩
  have hgw : Grew w w2 := (show Grew w _ from (by repeat (first | with_reducible exact Grew.refl _ | with_reducible apply Grew.alloc | with_reducible apply Grew.grow | with_reducible apply Grew.drew | with_reducible apply Grew.drewN))).trans hg
  have HO := Lib.hid ho
  clear ho hg
  refine wpFlow_one 7 (by decide +kernel) (by kernel_rfl) (by kernel_rfl) ?_
  refine wpFlowS_intro ?_
  simp only [pickOps_cons, pickOps_nil, pick1_zero, pick1_succ]
  intro δf
  go_wp2_with (fail)
  refine ⟨(by first | assumption | (simp only [grow_grow, Array.append_assoc]; assumption) | exact Grew.refl _ | (simp only [grow_grow, Array.append_assoc]; exact (by repeat (first | with_reducible exact Grew.refl _ | with_reducible apply Grew.alloc | with_reducible apply Grew.grow | with_reducible apply Grew.drew | with_reducible apply Grew.drewN))) | exact (by repeat (first | with_reducible exact Grew.refl _ | with_reducible apply Grew.alloc | with_reducible apply Grew.grow | with_reducible apply Grew.drew | with_reducible apply Grew.drewN))), ?_⟩
  refine wpFlow_end (by decide +kernel) (by kernel_rfl) ?_
  intro δf
  go_wp2
  go_ret
  exact ⟨_, rfl, HO.out.grew (by repeat (first | with_reducible exact Grew.refl _ | with_reducible apply Grew.alloc | with_reducible apply Grew.grow | with_reducible apply Grew.drew | with_reducible apply Grew.drewN)), hgw.trans (by repeat (first | with_reducible exact Grew.refl _ | with_reducible apply Grew.alloc | with_reducible apply Grew.grow | with_reducible apply Grew.drew | with_reducible apply Grew.drewN))⟩
theorem text_sh (a b : Idb) (w : World) : Calls Try.prog 42 #[.agg (iv (pair a.l b.l))] w fun e w' => ∃ v, e = .returned v ∧ Shows w' v (bys (textL a.l b.l)) ∧ Grew w w' :=
  (text_w a b w).mono fun _ _ ⟨v, e, ho, hg⟩ => ⟨v, e, ho.shows, hg⟩
set_option maxRecDepth 100000 in
set_option maxHeartbeats 1600000 in
theorem node_w (a b : Idb) (w : World) : Calls Try.prog 41 #[.agg (iv a.l), .agg (iv b.l)] w fun e w' => e = .returned (.agg (iv (Idb.node a b).l)) ∧ Grew w w' := by
  have la := a.len
  have lb := b.len
  go_enter Try.func41, Try.ntmps41
  go_wp2_with (go_at_call 42; refine (text_sh a b _).mono ?_; rintro e w2 ⟨v, rfl, hs, hg⟩; refine stop_of ?_)
  unfold Stop
  have HS := Lib.hid hs
  have hgw : Grew w w2 := (show Grew w _ from (by repeat (first | with_reducible exact Grew.refl _ | with_reducible apply Grew.alloc | with_reducible apply Grew.grow | with_reducible apply Grew.drew | with_reducible apply Grew.drewN))).trans hg
  have r1 : w2.rowAt (w.heap.size + 1 + 1) = iv id0 := by rw [Grew.rowAt hg _ (by simp)]; simp [go_sem]
  have r2 : w2.rowFree (w.heap.size + 1 + 1) = true := by rw [Grew.rowFree hg _ (by simp)]; simp [go_sem]
  have hlt : w.heap.size + 1 + 1 < w2.heap.size := by have := hg.size; simp at this; omega
  have hsl := sum_len (textL a.l b.l)
  have HG := Lib.hid hgw
  clear hs hg hgw
  go_wp2_with (go_at_call 23; refine (sum_w (textL a.l b.l) _ _ (by rw [text_len]; omega) (text_lt a b) HS.out).mono ?_; rintro e w' ⟨rfl, δ, rfl⟩)
  refine bodyPost_ret (id_result rfl _ rfl (l := Go.Proofs.Ytinkdkcmmjfhoaa.sum (textL a.l b.l)) ?_ hsl) rfl ⟨rfl, ?_⟩
  · rw [rowAt_grow_old _ _ _ (by rw [setRow_size]; exact hlt), rowAt_setRow_free _ _ _ r2]
  · exact (Grew.setRow_new HG.out _ _ (by omega)).grow _
theorem rowsA_two (w : World) (v v' : Value) (l l' : List Nat) (h : Shows w v (bys l)) (h' : Shows w v' (bys l')) : RowsAt (w.alloc (.cells #[v, v'] 38)) (.slice (some ⟨w.heap.size, 0, none⟩) 2 2) [l, l'] := by
  refine ⟨[v, v'], rfl, shows_alloc w [v, v'] _ 2, fun k hk => ?_⟩
  match k, hk with
  | 0, _ => exact h.grew ⟨_, alloc_is_grow w _⟩
  | 1, _ => exact h'.grew ⟨_, alloc_is_grow w _⟩
set_option maxRecDepth 100000 in
set_option maxHeartbeats 1600000 in
theorem leaf_w (l : List Nat) (v : Value) (w : World) (hl : l.length ≤ 1000000) (hb : ∀ c ∈ l, c < 256) (hv : Shows w v (bys l)) : Calls Try.prog 21 #[v] w fun e w' => e = .returned (.agg (iv (Idb.leaf l).l)) ∧ Grew w w' := by
  obtain ⟨p, c, rfl⟩ := shows_form hv
  rw [bys_len] at hv ⊢
  have HV := Lib.hid hv
  have HB := Lib.hid hb
  clear hv hb
  go_enter Try.func21, Try.ntmps21
  go_wp2_with (go_at_call 38; refine stop_of ?_)
  unfold Stop
  have g0 : Grew w (w.alloc (.cells (iv id0) 24)) := (by repeat (first | with_reducible exact Grew.refl _ | with_reducible apply Grew.alloc | with_reducible apply Grew.grow | with_reducible apply Grew.drew | with_reducible apply Grew.drewN))
  have g1 : Grew (w.alloc (.cells (iv id0) 24)) ((w.alloc (.cells (iv id0) 24)).alloc (.cells #[.int .u8 0] 5)) := (by repeat (first | with_reducible exact Grew.refl _ | with_reducible apply Grew.alloc | with_reducible apply Grew.grow | with_reducible apply Grew.drew | with_reducible apply Grew.drewN))
  have o1 := shows_one (w.alloc (.cells (iv id0) 24)) (.int .u8 0) 5 1
  have o2 := rowsA_two ((w.alloc (.cells (iv id0) 24)).alloc (.cells #[.int .u8 0] 5)) (.slice (some ⟨w.heap.size + 1, 0, none⟩) 1 1) (.slice p l.length c) [0] l (by rw [World.size_alloc] at o1; exact o1) (HV.out.grew (g0.trans g1))
  rw [World.size_alloc, World.size_alloc] at o2
  have hfl : ([[0], l] : List (List Nat)).flatten = 0 :: l := by simp
  refine (of_w [[0], l] _ _ ?_ (by simp) (by rw [hfl]; simp; omega) o2).mono ?_
  · intro l' hl' x hx
    simp only [List.mem_cons, List.not_mem_nil, or_false] at hl'
    rcases hl' with rfl | rfl
    · simp only [List.mem_cons, List.not_mem_nil, or_false] at hx; omega
    · exact HB.out x hx
  · rw [hfl]
    rintro e w2 ⟨rfl, hg⟩
    have hsl := sum_len (0 :: l)
    have hgw : Grew w w2 := (show Grew w _ from (by repeat (first | with_reducible exact Grew.refl _ | with_reducible apply Grew.alloc | with_reducible apply Grew.grow | with_reducible apply Grew.drew | with_reducible apply Grew.drewN))).trans hg
    have r2 : w2.rowFree w.heap.size = true := by rw [Grew.rowFree hg _ (by simp; omega)]; simp [go_sem]
    have r1 : w2.rowAt w.heap.size = iv id0 := by rw [Grew.rowAt hg _ (by simp; omega)]; simp [go_sem]
    have hlt : w.heap.size < w2.heap.size := by have := hg.size; simp at this; omega
    have HG := Lib.hid hgw
    clear hg hgw o1 o2 g0 g1
    go_wp2
    refine bodyPost_ret (id_result rfl _ rfl (l := Go.Proofs.Ytinkdkcmmjfhoaa.sum (0 :: l)) ?_ hsl) rfl ⟨rfl, ?_⟩
    · rw [rowAt_setRow_free _ _ _ r2]
    · exact Grew.setRow_new HG.out _ _ (Nat.le_refl _)
end Go.Proofs.Ytinkdkcmmjfhoaa
/- tree's pairs. -/
namespace Go.Proofs.Ytinkdkcmmjfhoaa
set_option linter.unusedVariables false
set_option linter.unusedSimpArgs false
open Go.RowKit
/-- What Node sums at a step. -/
def pr (s : Nat) (x y : Idb) : Idb × Idb := if s = 0 then (x, y) else (y, x)
def nodeP (p : Idb × Idb) : Idb := p.1.node p.2
def prs : List Nat → Idb → List Idb → List (Idb × Idb)
  | s :: ss, x, y :: ys => pr s x y :: prs ss (nodeP (pr s x y)) ys
  | _, _, _ => []
def top : List Nat → Idb → List Idb → Idb
  | s :: ss, x, y :: ys => top ss (nodeP (pr s x y)) ys
  | _, x, _ => x
theorem top_snoc : ∀ (ss : List Nat) (ys : List Idb) (x : Idb) (s : Nat) (y : Idb), ss.length = ys.length → top (ss ++ [s]) x (ys ++ [y]) = nodeP (pr s (top ss x ys) y)
  | [], [], x, s, y, _ => rfl
  | t :: ss, z :: ys, x, s, y, h => by
    simp only [List.cons_append, top]
    exact top_snoc ss ys _ s y (by simpa using h)
  | [], _ :: _, _, _, _, h => by simp at h
  | _ :: _, [], _, _, _, h => by simp at h
theorem prs_snoc : ∀ (ss : List Nat) (ys : List Idb) (x : Idb) (s : Nat) (y : Idb), ss.length = ys.length → prs (ss ++ [s]) x (ys ++ [y]) = prs ss x ys ++ [pr s (top ss x ys) y]
  | [], [], x, s, y, _ => rfl
  | t :: ss, z :: ys, x, s, y, h => by
    simp only [List.cons_append, prs, top]
    rw [prs_snoc ss ys _ s y (by simpa using h)]
  | [], _ :: _, _, _, _, h => by simp at h
  | _ :: _, [], _, _, _, h => by simp at h
theorem prs_len : ∀ (ss : List Nat) (x : Idb) (ys : List Idb), ss.length = ys.length → (prs ss x ys).length = ss.length
  | [], _, [], _ => rfl
  | s :: ss, x, y :: ys, h => by simp only [prs, List.length_cons]; rw [prs_len ss _ ys (by simpa using h)]
  | [], _, _ :: _, h => by simp at h
  | _ :: _, _, [], h => by simp at h
/-- The first 'k' steps. -/
def prsk (ss : List Nat) (x : Idb) (ys : List Idb) (k : Nat) : List (Idb × Idb) := prs (ss.take k) x (ys.take k)
def topk (ss : List Nat) (x : Idb) (ys : List Idb) (k : Nat) : Idb := top (ss.take k) x (ys.take k)
theorem stepk (ss : List Nat) (x : Idb) (ys : List Idb) (k : Nat) (s : Nat) (y : Idb) (hl : ss.length = ys.length) (h1 : ss[k]? = some s) (h2 : ys[k]? = some y) :
    prsk ss x ys (k + 1) = prsk ss x ys k ++ [pr s (topk ss x ys k) y] ∧ topk ss x ys (k + 1) = nodeP (pr s (topk ss x ys k) y) := by
  have e1 : ss.take (k + 1) = ss.take k ++ [s] := by rw [List.take_add_one, h1]; rfl
  have e2 : ys.take (k + 1) = ys.take k ++ [y] := by rw [List.take_add_one, h2]; rfl
  have hl2 : (ss.take k).length = (ys.take k).length := by simp [hl]
  unfold prsk topk
  rw [e1, e2]
  exact ⟨prs_snoc _ _ _ _ _ hl2, top_snoc _ _ _ _ _ hl2⟩
theorem prsk_len (ss : List Nat) (x : Idb) (ys : List Idb) (k : Nat) (hl : ss.length = ys.length) (hk : k ≤ ss.length) : (prsk ss x ys k).length = k := by
  unfold prsk
  rw [prs_len _ _ _ (by simp [hl]), List.length_take]
  omega
theorem prsk_all (ss : List Nat) (x : Idb) (ys : List Idb) (hl : ss.length = ys.length) : prsk ss x ys ss.length = prs ss x ys ∧ topk ss x ys ss.length = top ss x ys := by
  unfold prsk topk
  rw [List.take_length, hl, List.take_length]
  exact ⟨rfl, rfl⟩
/-- The cells of two ids. -/
def pcs (p : Idb × Idb) : List Value := bys (pair p.1.l p.2.l)
theorem pcs_len (p : Idb × Idb) : (pcs p).length = 64 := by unfold pcs; rw [bys_len]; simp [pair, p.1.len, p.2.len]
theorem pcs_one (p : Idb × Idb) : ∀ u ∈ pcs p, u.oneCell' = true := bys_one _
theorem pcs_arr (p : Idb × Idb) : (pcs p).toArray = iv (pair p.1.l p.2.l) := rfl
theorem results_slot_id {fn : Func} {q p : Tmp} {g : Nat} {w : World} {x : Idb} (hr : fn.results = #[.tmp q, .cell p 24]) (tmps : Array Value) (hp : tmps.getD p undef = .pointer (some ⟨g, 0, none⟩)) (h : w.rowAt g = iv x.l) :
    (results fn tmps).run Try.prog w = .ok (.tuple #[tmps.getD q undef, .agg (iv x.l)]) w := by
  have h32 : (w.rowAt g).size = 31 + 1 := by rw [h, iv_size, x.len]
  obtain ⟨t, fr, hg⟩ := row_of_size w h32
  have hp' : tmps[p]?.getD undef = .pointer (some ⟨g, 0, none⟩) := by simpa using hp
  have hl := run_loadVar_row (P := Try.prog) w g t 24 _ fr _ hg under_id rfl (by rw [h32]; exact size_id)
  rw [h] at hl
  simp [results, hr, hp', asAddr, hl]
set_option maxRecDepth 100000 in
set_option maxHeartbeats 6400000 in
theorem pairs_w (ss : List Nat) (x : Idb) (ys : List Idb) (v1 v2 : Value) (w : World) (hs : ∀ s ∈ ss, s = 0 ∨ s = 1) (hl : ss.length = ys.length) (hn : ss.length ≤ 100000) (h1 : Shows w v1 (ivs ss)) (h2 : ShowsI w v2 ys) :
    Calls Try.prog 40 #[v1, .agg (iv x.l), v2] w fun e w' => ∃ v, e = .returned (.tuple #[v, .agg (iv (top ss x ys).l)]) ∧ OwnE 64 pcs w' w.heap.size 54 v (prs ss x ys) ∧ Grew w w' := by
  obtain ⟨p1, c1, rfl⟩ := shows_form h1
  obtain ⟨p2, c2, rfl⟩ := showsI_form h2
  obtain ⟨ii, hif, hz, hsz, hby⟩ := info_p
  obtain ⟨N, hN⟩ : ∃ N, ss.length = N := ⟨_, rfl⟩
  have H1 := Lib.hid h1
  have H2 := Lib.hid h2
  clear h1 h2
  rw [ivs_len] at H1 ⊢
  rw [← hl] at H2 ⊢
  rw [hN] at H1 H2 hn ⊢
  have hx := x.len
  go_enter Try.func40, Try.ntmps40
  go_wp2
  obtain ⟨A, hA⟩ : ∃ A, (w.alloc (Obj.cells (iv x.l) 24)).alloc (Obj.cells (iv id0) 24) = A := ⟨_, rfl⟩
  have gA : Grew w A := by rw [← hA]; exact (by repeat (first | with_reducible exact Grew.refl _ | with_reducible apply Grew.alloc | with_reducible apply Grew.grow | with_reducible apply Grew.drew | with_reducible apply Grew.drewN))
  have sA : A.heap.size = w.heap.size + 2 := by rw [← hA]; simp
  have rA : A.rowAt w.heap.size = iv x.l := by rw [← hA]; simp [go_sem]
  have fA : A.rowFree w.heap.size = true := by rw [← hA]; simp [go_sem]
  have iA : Grew (A.setRow w.heap.size (iv (topk ss x ys 0).l)) A := by
    have : A.setRow w.heap.size (iv (topk ss x ys 0).l) = A := by
      have h := setRow_same' A w.heap.size fA
      rw [rA] at h
      exact h
    rw [this]; exact Grew.refl _
  have rA7 : A.rowAt (w.heap.size + 1) = iv id0 := by rw [← hA]; simp [go_sem]
  have fA7 : A.rowFree (w.heap.size + 1) = true := by rw [← hA]; simp [go_sem]
  rw [hA]
  obtain ⟨g, hg⟩ : ∃ g, w.heap.size = g := ⟨_, rfl⟩
  rw [hg] at sA rA fA iA rA7 fA7 ⊢
  have HGW := Lib.hid hg
  have FA := Lib.hid fA
  have R7 := Lib.hid rA7
  have F7 := Lib.hid fA7
  clear hA rA fA hg rA7 fA7
  go_loopw [14, 8] (fun i v wr => ∃ k : Nat, k ≤ N ∧ i = .int .i64 k ∧ OwnE 64 pcs wr A.heap.size 54 v (prsk ss x ys k) ∧ Grew (A.setRow g (iv (topk ss x ys k).l)) wr) (fun i _ _ => N - (intOf i).toNat)
  case atStart => exact ⟨0, by omega, rfl, OwnE.nil _ _ _, iA⟩
  case round =>
    obtain ⟨k, hk, rfl, ho, hI⟩ := hrel
    have hgA : g < A.heap.size := by omega
    have gw : Grew w wr := (Grew.setRow_new gA g _ (by have := HGW.out; omega)).trans hI
    have rw4 : wr.rowAt g = iv (topk ss x ys k).l := by rw [Grew.rowAt hI _ (by rw [setRow_size]; exact hgA), rowAt_setRow_free _ _ _ FA.out]
    have fw4 : wr.rowFree g = true := by rw [Grew.rowFree hI _ (by rw [setRow_size]; exact hgA), rowFree_setRow_free _ _ _ FA.out]
    have hgw : g < wr.heap.size := by have := hI.size; rw [setRow_size] at this; omega
    obtain ⟨z, hzz⟩ : ∃ z, topk ss x ys k = z := ⟨_, rfl⟩
    have HO := Lib.hid ho
    have HI := Lib.hid hI
    have GW := Lib.hid gw
    clear ho hI gw iA
    by_cases hkN : k < N
    · have hlt : (k : Int) < (N : Int) := by omega
      obtain ⟨s, hsk⟩ : ∃ s, ss[k]? = some s := ⟨_, List.getElem?_eq_getElem (by omega)⟩
      obtain ⟨y, hyk⟩ : ∃ y, ys[k]? = some y := ⟨_, List.getElem?_eq_getElem (by omega)⟩
      have hst := stepk ss x ys k s y hl hsk hyk
      have hs01 := hs s (List.mem_of_getElem? hsk)
      obtain ⟨b1, o1, hp1, hb1, hc1⟩ : ∃ b o, p1 = some ⟨b, o, none⟩ ∧ b < w.heap.size ∧ w.cell? ⟨b, o + k, none⟩ = some (.int .i64 s) := by
        rcases H1.out with ⟨b, o, c, he, hb, h⟩ | ⟨p', c', he, h0⟩
        · simp only [Value.slice.injEq] at he
          exact ⟨b, o, he.1, hb, h k _ (by simp [ivs, hsk])⟩
        · have := ivs_len ss; rw [h0] at this; simp at this; omega
      obtain ⟨b2, o2, hp2, e1, e2, hb2, hr2⟩ := showsI_some H2.out (by rw [← hl]; omega)
      have hr := hr2 k y hyk
      subst hp1 hp2
      have c1' := GW.out.cell hc1
      have r2' := World.rangeAt.grew hr GW.out
      have hzl := z.len
      have hyl := y.len
      rw [hzz] at rw4 hst
      have HST := Lib.hid hst
      have qld : ∀ C : Array Value, (rowLoad 24 (.pointer (some ⟨b2, o2 + k * 32, none⟩))).run Try.prog (wr.alloc (.cells C 54)).drew = .ok (.value (.agg (iv y.l))) (wr.alloc (.cells C 54)).drew := fun C => load_idm (World.rangeAt.grew r2' (by repeat (first | with_reducible exact Grew.refl _ | with_reducible apply Grew.alloc | with_reducible apply Grew.grow | with_reducible apply Grew.drew | with_reducible apply Grew.drewN)))
      have hzN : (N : Int) ≤ 100000 := by omega
      have HKN := Lib.hid hk
      have HL := Lib.hid hl
      have HN := Lib.hid hN
      clear hst hsk hyk hr2 hr hc1 hs e1 e2 hl hN hn hk hkN
      rcases hs01 with rfl | rfl
      · go_wp2
        go_region
        all_goals
          go_wp2_with (at_builtin; refine stop_of ?_)
          unfold Stop
          have sA' : (A.setRow g (iv (topk ss x ys k).l)).heap.size = A.heap.size := setRow_size _ _ _
          have hwA : A.heap.size ≤ wr.heap.size := by rw [← sA']; exact HI.out.size
          have hob : ∀ q, u8.ownBlock = some q → q < wr.heap.size := fun q hq => (HO.out.block q hq).2
          obtain ⟨X, hX⟩ : ∃ X, ((wr.alloc (.cells (iv (pair z.l y.l)) 54)).alloc (.cells (iv (pair z.l y.l)) 54)).drew = X := ⟨_, rfl⟩
          have gX : Grew wr X := by rw [← hX]; exact (by repeat (first | with_reducible exact Grew.refl _ | with_reducible apply Grew.alloc | with_reducible apply Grew.grow | with_reducible apply Grew.drew | with_reducible apply Grew.drewN))
          have hsl : ShowsE 64 pcs X (.slice (some ⟨wr.heap.size + 1, 0, none⟩) 1 1) [(z, y)] := by
            have := showsE_one pcs_len (wr.alloc (.cells (iv (pair z.l y.l)) 54)) (z, y) 54 1 (by omega)
            rw [World.size_alloc] at this
            rw [← hX]
            exact this.grew (Grew.refl _).drew
          have rX : X.rowAt wr.heap.size = iv (pair z.l y.l) := by rw [← hX]; simp [go_sem]
          have sX : wr.heap.size < X.heap.size := by rw [← hX]; simp; omega
          rw [hX]
          have HOK := HO.out.grew gX
          have hlen := prsk_len ss x ys k HL.out (by rw [HN.out]; exact HKN.out)
          have hk1 : (prsk ss x ys k).length + 1 ≤ 100001 := by have := HKN.out; omega
          have e1 : A.heap.size ≤ X.heap.size := by omega
          have e2 : (prsk ss x ys k).length + [(z, y)].length ≤ maxLen := by simp only [maxLen, List.length_cons, List.length_nil]; omega
          have e3 : ((prsk ss x ys k).length + [(z, y)].length) * 64 ≤ 140737488355328 := by simp only [List.length_cons, List.length_nil]; omega
          refine wpList_appendE pcs_len (by decide) rfl _ _ _ rfl _ ii _ 64 under_ps hif hz hsz hby (by exact pair_size _ _ id0_len id0_len) pcs_one (A.setRow g (iv (topk ss x ys k).l)) X A.heap.size _ _ rfl rfl _ [(z, y)] (HI.out.trans gX) (by rw [sA']; exact Nat.le_refl _) e1 (by exact HOK) (by exact hsl) e2 e3 (by simp) ?_
          intro v' w' ho' hg' hgb
          obtain ⟨q, hq⟩ : ∃ q, wr.heap.size = q := ⟨_, rfl⟩
          rw [hq] at rX sX hob hwA hgw ⊢
          have hb3 : w'.heap[q]? = X.heap[q]? := hgb.block q sX (fun e => by have := hob q e.symm; omega)
          have rp : w'.rowAt q = iv (pair z.l y.l) := by rw [rowAt_of_heap hb3]; exact rX
          have rg : w'.rowAt g = iv z.l := by rw [Grew.rowAt hg' _ (by rw [setRow_size]; exact hgA), rowAt_setRow_free _ _ _ FA.out, hzz]
          have rf : w'.rowFree g = true := by rw [Grew.rowFree hg' _ (by rw [setRow_size]; exact hgA), rowFree_setRow_free _ _ _ FA.out]
          have hgw' : g < w'.heap.size := by have := hg'.size; rw [setRow_size] at this; omega
          have HO' := Lib.hid ho'
          have HG' := Lib.hid hg'
          have hnl := (z.node y).len
          clear HOK ho' hg' hgb hb3 hsl rX gX hX qld hob r2' c1'
          go_wp2_with (go_at_call 41; refine (node_w z y _).mono ?_; rintro e w'' ⟨rfl, δ, rfl⟩)
          have hp : pr 0 z y = (z, y) := rfl
          have hst := HST.out
          rw [hp] at hst
          have hne : v'.ownBlock ≠ some g := fun e => by have := (HO'.out.block g e).1; omega
          refine ⟨⟨k + 1, by omega, by go_num, ?_, ?_⟩, by simp only [intOf]; omega⟩
          · rw [hst.1]
            exact (HO'.out.kept (grownBy_setRow _ _ _) (.inr hne)).grew ⟨δ, rfl⟩
          · rw [hst.2]
            have h3 := Grew.setRow_old HG'.out g (iv (z.node y).l) (by rw [setRow_size]; exact hgA)
            rw [setRow_setRow] at h3
            exact h3.grow δ
      · go_wp2
        go_region
        all_goals
          go_wp2_with (at_builtin; refine stop_of ?_)
          unfold Stop
          have sA' : (A.setRow g (iv (topk ss x ys k).l)).heap.size = A.heap.size := setRow_size _ _ _
          have hwA : A.heap.size ≤ wr.heap.size := by rw [← sA']; exact HI.out.size
          have hob : ∀ q, u8.ownBlock = some q → q < wr.heap.size := fun q hq => (HO.out.block q hq).2
          obtain ⟨X, hX⟩ : ∃ X, ((wr.alloc (.cells (iv (pair y.l z.l)) 54)).alloc (.cells (iv (pair y.l z.l)) 54)).drew = X := ⟨_, rfl⟩
          have gX : Grew wr X := by rw [← hX]; exact (by repeat (first | with_reducible exact Grew.refl _ | with_reducible apply Grew.alloc | with_reducible apply Grew.grow | with_reducible apply Grew.drew | with_reducible apply Grew.drewN))
          have hsl : ShowsE 64 pcs X (.slice (some ⟨wr.heap.size + 1, 0, none⟩) 1 1) [(y, z)] := by
            have := showsE_one pcs_len (wr.alloc (.cells (iv (pair y.l z.l)) 54)) (y, z) 54 1 (by omega)
            rw [World.size_alloc] at this
            rw [← hX]
            exact this.grew (Grew.refl _).drew
          have rX : X.rowAt wr.heap.size = iv (pair y.l z.l) := by rw [← hX]; simp [go_sem]
          have sX : wr.heap.size < X.heap.size := by rw [← hX]; simp; omega
          rw [hX]
          have HOK := HO.out.grew gX
          have hlen := prsk_len ss x ys k HL.out (by rw [HN.out]; exact HKN.out)
          have hk1 : (prsk ss x ys k).length + 1 ≤ 100001 := by have := HKN.out; omega
          have e1 : A.heap.size ≤ X.heap.size := by omega
          have e2 : (prsk ss x ys k).length + [(y, z)].length ≤ maxLen := by simp only [maxLen, List.length_cons, List.length_nil]; omega
          have e3 : ((prsk ss x ys k).length + [(y, z)].length) * 64 ≤ 140737488355328 := by simp only [List.length_cons, List.length_nil]; omega
          refine wpList_appendE pcs_len (by decide) rfl _ _ _ rfl _ ii _ 64 under_ps hif hz hsz hby (by exact pair_size _ _ id0_len id0_len) pcs_one (A.setRow g (iv (topk ss x ys k).l)) X A.heap.size _ _ rfl rfl _ [(y, z)] (HI.out.trans gX) (by rw [sA']; exact Nat.le_refl _) e1 (by exact HOK) (by exact hsl) e2 e3 (by simp) ?_
          intro v' w' ho' hg' hgb
          obtain ⟨q, hq⟩ : ∃ q, wr.heap.size = q := ⟨_, rfl⟩
          rw [hq] at rX sX hob hwA hgw ⊢
          have hb3 : w'.heap[q]? = X.heap[q]? := hgb.block q sX (fun e => by have := hob q e.symm; omega)
          have rp : w'.rowAt q = iv (pair y.l z.l) := by rw [rowAt_of_heap hb3]; exact rX
          have rg : w'.rowAt g = iv z.l := by rw [Grew.rowAt hg' _ (by rw [setRow_size]; exact hgA), rowAt_setRow_free _ _ _ FA.out, hzz]
          have rf : w'.rowFree g = true := by rw [Grew.rowFree hg' _ (by rw [setRow_size]; exact hgA), rowFree_setRow_free _ _ _ FA.out]
          have hgw' : g < w'.heap.size := by have := hg'.size; rw [setRow_size] at this; omega
          have HO' := Lib.hid ho'
          have HG' := Lib.hid hg'
          have hnl := (y.node z).len
          clear HOK ho' hg' hgb hb3 hsl rX gX hX qld hob r2' c1'
          go_wp2_with (go_at_call 41; refine (node_w y z _).mono ?_; rintro e w'' ⟨rfl, δ, rfl⟩)
          have hp : pr 1 z y = (y, z) := rfl
          have hst := HST.out
          rw [hp] at hst
          have hne : v'.ownBlock ≠ some g := fun e => by have := (HO'.out.block g e).1; omega
          refine ⟨⟨k + 1, by omega, by go_num, ?_, ?_⟩, by simp only [intOf]; omega⟩
          · rw [hst.1]
            exact (HO'.out.kept (grownBy_setRow _ _ _) (.inr hne)).grew ⟨δ, rfl⟩
          · rw [hst.2]
            have h3 := Grew.setRow_old HG'.out g (iv (y.node z).l) (by rw [setRow_size]; exact hgA)
            rw [setRow_setRow] at h3
            exact h3.grow δ
    · obtain rfl : k = N := by omega
      have hlt : ¬ ((k : Int) < (k : Int)) := by omega
      have r7 : wr.rowAt (g + 1) = iv id0 := by rw [Grew.rowAt HI.out _ (by rw [setRow_size]; omega), rowAt_of_heap (World.heap_setRow_ne _ _ _ _ (by omega))]; exact R7.out
      have f7 : wr.rowFree (g + 1) = true := by rw [Grew.rowFree HI.out _ (by rw [setRow_size]; omega), rowFree_of_heap (World.heap_setRow_ne _ _ _ _ (by omega))]; exact F7.out
      have hg7 : g + 1 < wr.heap.size := by have := HI.out.size; rw [setRow_size] at this; omega
      rw [hzz] at rw4
      have hzl := z.len
      have HSA := Lib.hid sA
      have HL := Lib.hid hl
      have HN := Lib.hid hN
      clear sA hgA hkN hk hl hN
      go_wp2
      go_region
      all_goals
        go_wp2
        have hne : u8.ownBlock ≠ some (g + 1) := fun e => by have := (HO.out.block (g + 1) e).1; have := HSA.out; omega
        have ho := (HO.out.kept (grownBy_setRow wr (g + 1) (iv z.l)) (.inr hne)).grew (Grew.refl _).drew
        have hall := prsk_all ss x ys HL.out
        have hNk : ss.length = k := HN.out
        rw [hNk] at hall
        rw [hall.1] at ho
        rw [hall.2] at hzz
        refine bodyPost_ret (results_slot_id rfl _ rfl (x := z) (by simp [go_sem, f7])) rfl ⟨_, by rw [hzz]; rfl, ho.base gA.size, ?_⟩
        exact (Grew.setRow_new GW.out (g + 1) _ (by have := HGW.out; omega)).drew
end Go.Proofs.Ytinkdkcmmjfhoaa
/- tree's Check. -/
namespace Go.Proofs.Ytinkdkcmmjfhoaa
set_option linter.unusedVariables false
set_option linter.unusedSimpArgs false
open Go.RowKit
theorem down_01 : ∀ (f n i : Nat), ∀ s ∈ down f n i, s = 0 ∨ s = 1
  | 0, _, _, s, h => by simp [down] at h
  | f + 1, n, i, s, h => by
    unfold down at h
    split at h
    · simp at h
    · split at h <;> rcases List.mem_cons.1 h with h | h
      · exact .inl h
      · exact down_01 f _ _ s h
      · exact .inr h
      · exact down_01 f _ _ s h
theorem side_01 (n i : Nat) : ∀ s ∈ (side n i).reverse, s = 0 ∨ s = 1 := fun s h => down_01 n n i s (List.mem_reverse.1 h)
/-- Is there such a place? -/
def chkIn (n i : Int) : Bool := decide (1 ≤ n ∧ n ≤ 64 ∧ 0 ≤ i ∧ i < n)
/-- The sides of a place, from the least tree on. -/
def sidesOf (n i : Int) : List Nat := (side n.toNat i.toNat).reverse
def chk (root : Idb) (n i : Int) (leaf : Idb) (path : List Idb) : Bool := chkIn n i && (decide ((sidesOf n i).length = path.length) && ieq (top (sidesOf n i) leaf path).l root.l)
theorem chk_out {n i : Int} (h : ¬ (1 ≤ n ∧ n ≤ 64 ∧ 0 ≤ i ∧ i < n)) (root leaf : Idb) (path : List Idb) : chk root n i leaf path = false := by
  unfold chk chkIn
  rw [decide_eq_false h, Bool.false_and]
set_option maxRecDepth 100000 in
set_option maxHeartbeats 6400000 in
theorem check_w (root : Idb) (n i : Int) (leaf : Idb) (path : List Idb) (v : Value) (w : World) (hv : ShowsI w v path) (hp : path.length ≤ 1000000) :
    Calls Try.prog 35 #[.agg (iv root.l), .int .i64 n, .int .i64 i, .agg (iv leaf.l), v] w fun e w' => e = .returned (.bool (chk root n i leaf path)) ∧ Grew w w' := by
  obtain ⟨p, c, rfl⟩ := showsI_form hv
  have HV := Lib.hid hv
  clear hv
  have hrl := root.len
  have hll := leaf.len
  by_cases h1 : n < 1
  · have HC := Lib.hid (chk_out (n := n) (i := i) (by omega) root leaf path)
    go_enter Try.func35, Try.ntmps35
    go_wp2
    go_ret
    exact ⟨by rw [HC.out]; rfl, (by repeat (first | with_reducible exact Grew.refl _ | with_reducible apply Grew.alloc | with_reducible apply Grew.grow | with_reducible apply Grew.drew | with_reducible apply Grew.drewN))⟩
  by_cases h2 : 64 < n
  · have HC := Lib.hid (chk_out (n := n) (i := i) (by omega) root leaf path)
    go_enter Try.func35, Try.ntmps35
    go_wp2
    go_ret
    exact ⟨by rw [HC.out]; rfl, (by repeat (first | with_reducible exact Grew.refl _ | with_reducible apply Grew.alloc | with_reducible apply Grew.grow | with_reducible apply Grew.drew | with_reducible apply Grew.drewN))⟩
  by_cases h3 : i < 0
  · have HC := Lib.hid (chk_out (n := n) (i := i) (by omega) root leaf path)
    go_enter Try.func35, Try.ntmps35
    go_wp2
    go_ret
    exact ⟨by rw [HC.out]; rfl, (by repeat (first | with_reducible exact Grew.refl _ | with_reducible apply Grew.alloc | with_reducible apply Grew.grow | with_reducible apply Grew.drew | with_reducible apply Grew.drewN))⟩
  by_cases h4 : n ≤ i
  · have HC := Lib.hid (chk_out (n := n) (i := i) (by omega) root leaf path)
    go_enter Try.func35, Try.ntmps35
    go_wp2
    go_ret
    exact ⟨by rw [HC.out]; rfl, (by repeat (first | with_reducible exact Grew.refl _ | with_reducible apply Grew.alloc | with_reducible apply Grew.grow | with_reducible apply Grew.drew | with_reducible apply Grew.drewN))⟩
  obtain ⟨m, rfl⟩ : ∃ m : Nat, n = (m : Int) := ⟨n.toNat, by omega⟩
  obtain ⟨j, rfl⟩ : ∃ j : Nat, i = (j : Int) := ⟨i.toNat, by omega⟩
  have hc : chk root m j leaf path = (decide ((sidesOf m j).length = path.length) && ieq (top (sidesOf m j) leaf path).l root.l) := by
    unfold chk chkIn
    rw [decide_eq_true (show 1 ≤ (m : Int) ∧ (m : Int) ≤ 64 ∧ 0 ≤ (j : Int) ∧ (j : Int) < m by omega), Bool.true_and]
  have hs : sidesOf m j = (side m j).reverse := rfl
  have h01 := side_01 m j
  have hsl := side_len m j (by omega) (by omega)
  have C1 := Lib.hid (fun W => sides_w m j (by omega) (by omega) (by omega) W)
  rw [← hs] at h01 C1
  obtain ⟨ss, hss⟩ : ∃ ss, sidesOf m j = ss := ⟨_, rfl⟩
  rw [hss] at hs hc h01 C1
  have hsl2 : ss.length < m := by rw [hs, List.length_reverse]; exact hsl
  have C2 := Lib.hid (fun (hl : ss.length = path.length) W v1 v2 (a : Shows W v1 (ivs ss)) (b : ShowsI W v2 path) => pairs_w ss leaf path v1 v2 W h01 hl (by omega) a b)
  have HC := Lib.hid hc
  obtain ⟨S, hS⟩ : ∃ S, ss.length = S := ⟨_, rfl⟩
  obtain ⟨Q, hQ⟩ : ∃ Q, path.length = Q := ⟨_, rfl⟩
  have HS := Lib.hid hS
  have HQ := Lib.hid hQ
  have hSI : (S : Int) ≤ 64 := by omega
  have hQI : (Q : Int) ≤ 1000000 := by omega
  rw [hQ] at HV ⊢
  clear hc hs h01 hsl hss hsl2 hS hQ hp
  by_cases hSQ : S = Q
  · have htl := (top ss leaf path).len
    obtain ⟨T, hT⟩ : ∃ T, top ss leaf path = T := ⟨_, rfl⟩
    rw [hT] at htl C2 HC
    clear hT
    subst hSQ
    have pre : ∀ w' : World, Grew ((w.alloc (.cells (iv root.l) 24)).alloc (.cells (iv leaf.l) 24)) w' → Grew w w' ∧ w'.rowAt w.heap.size = iv root.l ∧ w'.rowAt (w.heap.size + 1) = iv leaf.l ∧ w.heap.size < w'.heap.size ∧ w.heap.size + 1 < w'.heap.size := fun w' hg => by
      have hsz := hg.size
      simp only [World.size_alloc] at hsz
      refine ⟨(show Grew w _ from (by repeat (first | with_reducible exact Grew.refl _ | with_reducible apply Grew.alloc | with_reducible apply Grew.grow | with_reducible apply Grew.drew | with_reducible apply Grew.drewN))).trans hg, ?_, ?_, by omega, by omega⟩
      · rw [Grew.rowAt hg _ (by simp; omega)]; simp [go_sem]
      · rw [Grew.rowAt hg _ (by simp)]; simp [go_sem]
    go_enter Try.func35, Try.ntmps35
    go_wp2_with (first | (go_at_call 39; refine (C1.out _).mono ?_; rintro e w' ⟨v, rfl, ho, hg⟩; obtain ⟨p1, c1, rfl⟩ := shows_form ho.shows; obtain ⟨gw, r0, r1, z0, z1⟩ := pre w' hg; have HO := Lib.hid ho; have GW := Lib.hid gw; clear ho hg gw pre; rw [ivs_len, HS.out] at HO ⊢) | (go_at_call 40; refine (C2.out (by rw [HS.out, HQ.out]) _ _ _ HO.out.shows (HV.out.grew GW.out)).mono ?_; rintro e w'' ⟨v3, rfl, _, ⟨δ, rfl⟩⟩; have z2 : w.heap.size < w'.heap.size + δ.n := by omega))
    go_ret
    refine ⟨?_, GW.out.trans (by repeat (first | with_reducible exact Grew.refl _ | with_reducible apply Grew.alloc | with_reducible apply Grew.grow | with_reducible apply Grew.drew | with_reducible apply Grew.drewN))⟩
    rw [HC.out, HS.out, HQ.out, decide_eq_true rfl, Bool.true_and]
    rfl
  · have hne : ¬ (S : Int) = (Q : Int) := by omega
    clear C2
    go_enter Try.func35, Try.ntmps35
    go_wp2_with (go_at_call 39; refine (C1.out _).mono ?_; rintro e w' ⟨v, rfl, ho, hg⟩; obtain ⟨p1, c1, rfl⟩ := shows_form ho.shows; have HO := Lib.hid ho; have HG := Lib.hid hg; clear ho hg; rw [ivs_len, HS.out] at HO ⊢)
    go_ret
    refine ⟨?_, (show Grew w _ from (by repeat (first | with_reducible exact Grew.refl _ | with_reducible apply Grew.alloc | with_reducible apply Grew.grow | with_reducible apply Grew.drew | with_reducible apply Grew.drewN))).trans HG.out⟩
    rw [HC.out, HS.out, HQ.out, decide_eq_false hSQ, Bool.false_and]
    rfl
end Go.Proofs.Ytinkdkcmmjfhoaa
/- tree's Root. -/
namespace Go.Proofs.Ytinkdkcmmjfhoaa
set_option linter.unusedVariables false
set_option linter.unusedSimpArgs false
open Go.RowKit
/-- A tree's root. -/
def rootF : Nat → List Idb → Idb
  | 0, _ => Idb.sum [2]
  | f + 1, ls => if ls.length ≤ 1 then ls.headD (Idb.sum [2]) else Idb.node (rootF f (ls.take (halfN ls.length))) (rootF f (ls.drop (halfN ls.length)))
def root (ls : List Idb) : Idb := rootF ls.length ls
theorem rootF_more : ∀ (f g : Nat) (ls : List Idb), ls.length ≤ 1099511627776 → ls.length ≤ f → ls.length ≤ g → rootF f ls = rootF g ls
  | 0, 0, _, _, _, _ => rfl
  | 0, g + 1, ls, _, h, _ => by
    obtain rfl : ls = [] := List.length_eq_zero_iff.1 (by omega)
    simp [rootF]
  | f + 1, 0, ls, _, _, h => by
    obtain rfl : ls = [] := List.length_eq_zero_iff.1 (by omega)
    simp [rootF]
  | f + 1, g + 1, ls, hb, h1, h2 => by
    unfold rootF
    by_cases h : ls.length ≤ 1
    · rw [if_pos h, if_pos h]
    · rw [if_neg h, if_neg h]
      have hs := half_sand ls.length (by omega) hb
      have hp := half_pos ls.length
      rw [rootF_more f g (ls.take (halfN ls.length)) (by rw [List.length_take]; omega) (by rw [List.length_take]; omega) (by rw [List.length_take]; omega),
        rootF_more f g (ls.drop (halfN ls.length)) (by rw [List.length_drop]; omega) (by rw [List.length_drop]; omega) (by rw [List.length_drop]; omega)]
theorem root_nil : root [] = Idb.sum [2] := rfl
theorem root_one (x : Idb) : root [x] = x := by simp [root, rootF]
theorem root_cut (ls : List Idb) (h : 2 ≤ ls.length) (hb : ls.length ≤ 1099511627776) : root ls = Idb.node (root (ls.take (halfN ls.length))) (root (ls.drop (halfN ls.length))) := by
  have hs := half_sand ls.length h hb
  have hp := half_pos ls.length
  obtain ⟨f, hf⟩ : ∃ f, ls.length = f + 1 := ⟨ls.length - 1, by omega⟩
  have e : root ls = rootF (f + 1) ls := by unfold root; rw [hf]
  rw [e, rootF, if_neg (by omega)]
  unfold root
  rw [rootF_more f _ (ls.take (halfN ls.length)) (by rw [List.length_take]; omega) (by rw [List.length_take]; omega) (Nat.le_refl _),
    rootF_more f _ (ls.drop (halfN ls.length)) (by rw [List.length_drop]; omega) (by rw [List.length_drop]; omega) (Nat.le_refl _)]
theorem sum2_w (X : World) (g : Nat) (hg : g = X.heap.size) : Calls Try.prog 23 #[.slice (some ⟨g, 0, none⟩) 1 1] (X.alloc (.cells #[.int .u8 2] 5)) fun e w' => e = .returned (.agg (iv (Idb.sum [2]).l)) ∧ Grew (X.alloc (.cells #[.int .u8 2] 5)) w' := by
  subst hg
  exact sum_w [2] _ _ (by decide) (by decide) (shows_one X (.int .u8 2) 5 1)
theorem id_res {fn : Func} {p : Tmp} {g : Nat} {w : World} {x : Idb} (hr : fn.results = #[.cell p 24]) (tmps : Array Value) (hp : tmps.getD p undef = .pointer (some ⟨g, 0, none⟩)) (h : w.rowAt g = iv x.l) : (results fn tmps).run Try.prog w = .ok (.agg (iv x.l)) w := id_result hr tmps hp h x.len
set_option maxRecDepth 100000 in
theorem root_nil' (v : Value) (w : World) (hv : ShowsI w v []) : Calls Try.prog 34 #[v] w fun e w' => e = .returned (.agg (iv (root []).l)) ∧ Grew w w' := by
  obtain ⟨p, c, rfl⟩ := showsI_form hv
  clear hv
  have hsl := sum_len [2]
  simp only [List.length_nil]
  go_enter Try.func34, Try.ntmps34
  go_wp2_with (go_at_call 23; refine stop_of ?_)
  unfold Stop
  refine (sum2_w _ _ (by simp)).mono ?_
  rintro e w' ⟨rfl, δ, rfl⟩
  go_wp2
  exact bodyPost_ret (id_res rfl _ rfl (x := Idb.sum [2]) (by simp [go_sem])) rfl ⟨by rw [root_nil], (by repeat (first | with_reducible exact Grew.refl _ | with_reducible apply Grew.alloc | with_reducible apply Grew.grow | with_reducible apply Grew.drew | with_reducible apply Grew.drewN))⟩
set_option maxRecDepth 100000 in
set_option maxHeartbeats 3200000 in
theorem root_w : ∀ (f : Nat) (ls : List Idb) (v : Value) (w : World), ls.length ≤ f → ls.length ≤ 1000000 → ShowsI w v ls → Calls Try.prog 34 #[v] w fun e w' => e = .returned (.agg (iv (root ls).l)) ∧ Grew w w' := by
  intro f
  induction f with
  | zero =>
    intro ls v w hf _ hv
    obtain rfl : ls = [] := List.length_eq_zero_iff.1 (by omega)
    exact root_nil' v w hv
  | succ f ih =>
    intro ls v w hf hl hv
    obtain ⟨p, c, rfl⟩ := showsI_form hv
    rcases Nat.lt_or_ge ls.length 2 with h2 | h2
    · rcases Nat.lt_or_ge ls.length 1 with h1 | h1
      · obtain rfl : ls = [] := List.length_eq_zero_iff.1 (by omega)
        exact (root_nil' _ w hv)
      · obtain ⟨x, rfl⟩ : ∃ x, ls = [x] := by
          match ls, h1, h2 with
          | [x], _, _ => exact ⟨x, rfl⟩
        obtain ⟨b, o, rfl, _, hc, hb, hat⟩ := showsI_some hv (by simp)
        have hld := load_idm (World.rangeAt.grew (hat 0 x rfl) (show Grew w (w.alloc (.cells (iv id0) 24)) from (by repeat (first | with_reducible exact Grew.refl _ | with_reducible apply Grew.alloc | with_reducible apply Grew.grow | with_reducible apply Grew.drew | with_reducible apply Grew.drewN))))
        rw [Nat.zero_mul, Nat.add_zero] at hld
        have hx := x.len
        simp only [List.length_cons, List.length_nil, Nat.zero_add] at *
        go_enter Try.func34, Try.ntmps34
        go_wp2_with fail
        exact bodyPost_ret (id_res rfl _ rfl (x := x) (by simp [go_sem])) rfl ⟨by rw [root_one], (by repeat (first | with_reducible exact Grew.refl _ | with_reducible apply Grew.alloc | with_reducible apply Grew.grow | with_reducible apply Grew.drew | with_reducible apply Grew.drewN))⟩
    · obtain ⟨b, o, rfl, _, hc, hb, hat⟩ := showsI_some hv (by omega)
      have hs := half_sand ls.length h2 (by omega)
      have hp := half_pos ls.length
      obtain ⟨k, hk⟩ : ∃ k, halfN ls.length = k := ⟨_, rfl⟩
      have hcut := root_cut ls h2 (by omega)
      rw [hk] at hs hp hcut
      have z1 := ih (ls.take k) (.slice (some ⟨b, o, none⟩) k c)
      have hl1 : (ls.take k).length = k := by rw [List.length_take]; omega
      have hl2 : (ls.drop k).length = ls.length - k := by rw [List.length_drop]
      have p1 : ShowsI w (.slice (some ⟨b, o, none⟩) k c) (ls.take k) := by
        have := showsI_part (o := o) hb hat 0 k c (by omega) (by omega)
        simpa using this
      have p2 : ShowsI w (.slice (some ⟨b, o + k * 32, none⟩) (ls.length - k) (c - k)) (ls.drop k) := by
        have := showsI_part (o := o) hb hat k (ls.length - k) (c - k) (by omega) (by omega)
        rwa [List.take_of_length_le (by omega)] at this
      have c1 : ∀ W, Grew w W → Calls Try.prog 34 #[.slice (some ⟨b, o, none⟩) k c] W fun e w' => e = .returned (.agg (iv (root (ls.take k)).l)) ∧ Grew W w' := fun W g => ih (ls.take k) _ W (by omega) (by omega) (p1.grew g)
      have c2 : ∀ W, Grew w W → Calls Try.prog 34 #[.slice (some ⟨b, o + k * 32, none⟩) (ls.length - k) (c - k)] W fun e w' => e = .returned (.agg (iv (root (ls.drop k)).l)) ∧ Grew W w' := fun W g => ih (ls.drop k) _ W (by omega) (by omega) (p2.grew g)
      have c3 : ∀ W : World, Calls Try.prog 50 #[.int .i64 ls.length] W fun e w' => e = .returned (.int .i64 (k : Nat)) ∧ Grew W w' := fun W => by rw [← hk]; exact half_w ls.length h2 (by omega) W
      obtain ⟨N, hN⟩ : ∃ N, ls.length = N := ⟨_, rfl⟩
      rw [hN] at c2 c3 hs hc h2 ⊢
      have C1 := Lib.hid c1
      have C2 := Lib.hid c2
      have C3 := Lib.hid c3
      have HC := Lib.hid hcut
      have hx1 := (root (ls.take k)).len
      have hx2 := (root (ls.drop k)).len
      obtain ⟨ra, hA⟩ : ∃ A, root (ls.take k) = A := ⟨_, rfl⟩
      obtain ⟨rb, hB⟩ : ∃ B, root (ls.drop k) = B := ⟨_, rfl⟩
      rw [hA] at C1 HC hx1
      rw [hB] at C2 HC hx2
      have n0 : ¬ N = 0 := by omega
      have n1 : ¬ N = 1 := by omega
      have k1 : (k : Int) ≤ (c : Int) := by omega
      have k2 : (k : Int) ≤ (N : Int) := by omega
      have k3 : ¬ c = k := by omega
      clear z1 p1 p2 c1 c2 c3 hcut hv hat ih hl1 hl2 hA hB hk hN hf hl hs hp h2
      go_enter Try.func34, Try.ntmps34
      go_wp2_with (go_at_call 50; refine (C3.out _).mono ?_; rintro e w' ⟨rfl, δ, rfl⟩)
      refine wp_region_flowX [9] (by kernel_rfl) ?_
      intro δf
      apply wpFlowX_quiets [0,1,2,4,5,6] (by decide +kernel) (by decide +kernel) (by kernel_rfl) (by intro _ _ _ d _ h; cases d <;> exact h) _
      · intro A hA δ'
        simp only [pickOps_cons, pickOps_nil, pick1_zero, pick1_succ]
        repeat (go_big_quiet_step ((fail)))
        exact wpQuiet_nil hA.out.symm
      apply wpFlowX_quiets [3] (by decide +kernel) (by decide +kernel) (by kernel_rfl) (by intro _ _ _ d _ h; cases d <;> exact h) _
      · intro A hA δ'
        simp only [pickOps_cons, pickOps_nil, pick1_zero, pick1_succ]
        repeat (go_big_quiet_step ((go_at_call 34; exact Calls.pure_of_g4 (C1.out _ (by repeat (first | with_reducible exact Grew.refl _ | with_reducible apply Grew.alloc | with_reducible apply Grew.grow | with_reducible apply Grew.drew | with_reducible apply Grew.drewN))))))
        exact wpQuiet_nil hA.out.symm
      apply wpFlowX_quiets [7] (by decide +kernel) (by decide +kernel) (by kernel_rfl) (by intro _ _ _ d _ h; cases d <;> exact h) _
      · intro A hA δ'
        simp only [pickOps_cons, pickOps_nil, pick1_zero, pick1_succ]
        repeat (go_big_quiet_step ((go_at_call 34; exact Calls.pure_of_g4 (C2.out _ (by repeat (first | with_reducible exact Grew.refl _ | with_reducible apply Grew.alloc | with_reducible apply Grew.grow | with_reducible apply Grew.drew | with_reducible apply Grew.drewN))))))
        exact wpQuiet_nil hA.out.symm
      apply wpFlowX_quiets [8] (by decide +kernel) (by decide +kernel) (by kernel_rfl) (by intro _ _ _ d _ h; cases d <;> exact h) _
      · intro A hA δ'
        simp only [pickOps_cons, pickOps_nil, pick1_zero, pick1_succ]
        repeat (go_big_quiet_step ((go_at_call 41; exact Calls.pure_of_g4 (node_w ra rb _))))
        exact wpQuiet_nil hA.out.symm
      refine wpFlowX_esc 9 (by decide +kernel) (by kernel_rfl) (by decide +kernel) (by decide +kernel) ?_
      simp only [pickOps_cons, pickOps_nil, pick1_zero, pick1_succ]
      intro δf
      go_wp2
      refine wpAny_end (by decide +kernel) (by kernel_rfl) ?_
      go_wp2
      exact bodyPost_ret (id_res rfl _ rfl (x := ra.node rb) (by simp [go_sem])) rfl ⟨by rw [HC.out], (by repeat (first | with_reducible exact Grew.refl _ | with_reducible apply Grew.alloc | with_reducible apply Grew.grow | with_reducible apply Grew.drew | with_reducible apply Grew.drewN))⟩
end Go.Proofs.Ytinkdkcmmjfhoaa
