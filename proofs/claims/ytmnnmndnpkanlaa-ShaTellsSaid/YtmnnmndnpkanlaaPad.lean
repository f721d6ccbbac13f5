/- sha.Pad. -/
import Derived.Test.YtmnnmndnpkanlaaRows
import Derived.Test.YtmnnmndnpkanlaaCat
import Derived.Test.YtmnnmndnpkanlaaPlaces
import Derived.Laws.MakeOwn
import Derived.Test.YtmnnmndnpkanlaaRowed
namespace Go.Proofs.Ytmnnmndnpkanlaa
set_option linter.unusedVariables false
set_option linter.unusedSimpArgs false
open Go.RowKit
def zeros (n : Nat) : List Nat := List.replicate n 0
theorem zeros_len (n : Nat) : (zeros n).length = n := by simp [zeros]
@[go_sem] theorem make_b (n : Nat) (hn : n ≤ 1099511627776) (w : World) : (Instr.makeSlice 22 (.int .i64 (n : Int)) (.int .i64 (n : Int))).run Try.prog w = .ok (.slice (some ⟨w.heap.size, 0, none⟩) n n) (w.alloc (.cells (bys (zeros n)).toArray 5)) := by
  obtain ⟨i, hi, hz, hsz, hby⟩ := info_b
  have h := run_make (P := Try.prog) w 22 5 i (.int .u8 0) under_bs hi hz .i64 .i64 n n (by omega) (by omega) (by rw [hby]; omega) (by omega)
  rw [h, hsz]
  simp only [Int.toNat_natCast]
  congr 2
  congr 1
  apply Array.ext'
  simp only [madeCells, Value.cells, bys, zeros, Nat.mul_one, List.map_replicate]
  apply List.ext_getElem
  · simp
  · intro k h1 h2
    simp [Nat.mod_one]
theorem shows_alloc (w : World) (xs : List Value) (t : TypeId) (c : Nat) : Shows (w.alloc (.cells xs.toArray t)) (.slice (some ⟨w.heap.size, 0, none⟩) xs.length c) xs := by
  refine .inl ⟨_, _, _, rfl, by simp, fun j u hj => ?_⟩
  rw [cell_rowAt]
  simp [go_sem, hj]
theorem pad_cat (l : List Nat) (p : Option Addr) (c m : Nat) (w : World) (hl : l.length ≤ 1073741824) (hm : m ≤ 1000) (hv : Shows w (.slice p l.length c) (bys l)) :
    Calls Try.prog 17 #[.slice (some ⟨w.heap.size + 1 + 1, 0, none⟩) 3 3]
      (((w.alloc (.cells #[.int .u8 128] 5)).alloc (.cells (bys (zeros m)).toArray 5)).alloc (.cells #[.slice p l.length c, .slice (some ⟨w.heap.size, 0, none⟩) 1 1, .slice (some ⟨w.heap.size + 1, 0, none⟩) m m] 22))
      fun e w' => ∃ g cap, e = .returned (.slice (some ⟨g, 0, none⟩) (l.length + 1 + m) cap) ∧ w.heap.size ≤ g ∧ OwnR w' w.heap.size 5 (.slice (some ⟨g, 0, none⟩) (l.length + 1 + m) cap) (bys (l ++ 128 :: zeros m)) ∧ Grew w w' := by
  have g0 : Grew w (w.alloc (.cells #[.int .u8 128] 5)) := (by repeat (first | with_reducible exact Grew.refl _ | with_reducible apply Grew.alloc | with_reducible apply Grew.grow | with_reducible apply Grew.drew | with_reducible apply Grew.drewN))
  have g1 : Grew (w.alloc (.cells #[.int .u8 128] 5)) ((w.alloc (.cells #[.int .u8 128] 5)).alloc (.cells (bys (zeros m)).toArray 5)) := (by repeat (first | with_reducible exact Grew.refl _ | with_reducible apply Grew.alloc | with_reducible apply Grew.grow | with_reducible apply Grew.drew | with_reducible apply Grew.drewN))
  have s0 := shows_alloc w (bys [128]) 5 1
  have s1 := shows_alloc (w.alloc (.cells #[.int .u8 128] 5)) (bys (zeros m)) 5 m
  have s2 := shows_alloc ((w.alloc (.cells #[.int .u8 128] 5)).alloc (.cells (bys (zeros m)).toArray 5)) [.slice p l.length c, .slice (some ⟨w.heap.size, 0, none⟩) 1 1, .slice (some ⟨w.heap.size + 1, 0, none⟩) m m] 22 3
  have g2 : Grew ((w.alloc (.cells #[.int .u8 128] 5)).alloc (.cells (bys (zeros m)).toArray 5)) (((w.alloc (.cells #[.int .u8 128] 5)).alloc (.cells (bys (zeros m)).toArray 5)).alloc (.cells #[.slice p l.length c, .slice (some ⟨w.heap.size, 0, none⟩) 1 1, .slice (some ⟨w.heap.size + 1, 0, none⟩) m m] 22)) := (by repeat (first | with_reducible exact Grew.refl _ | with_reducible apply Grew.alloc | with_reducible apply Grew.grow | with_reducible apply Grew.drew | with_reducible apply Grew.drewN))
  rw [World.size_alloc, bys_len, zeros_len] at s1
  rw [World.size_alloc, World.size_alloc] at s2
  have hfl : ([l, [128], zeros m] : List (List Nat)).flatten = l ++ 128 :: zeros m := by simp
  refine (concat_w [l, [128], zeros m] _ _ _ rfl s2 ?_ (by rw [hfl]; simp [zeros_len]; omega) (by simp)).mono ?_
  · intro k hk
    have hk : k < 3 := hk
    match k, hk with
    | 0, _ => exact hv.grew (g0.trans (g1.trans g2))
    | 1, _ => exact s0.grew (g1.trans g2)
    | 2, _ => exact s1.grew g2
  · rintro e w' ⟨v, rfl, ho, hg⟩
    rw [hfl] at ho
    have ho' := ho.base (base' := w.heap.size) (by simp; omega)
    obtain ⟨q, cap, rfl⟩ := shows_form ho.shows
    have hlen : (bys (l ++ 128 :: zeros m)).length = l.length + 1 + m := by rw [bys_len]; simp [zeros_len]; omega
    rw [hlen] at ho ho' ⊢
    rcases ho'.2 with ⟨h, h0⟩ | ⟨g, cap', cur, h, hb, _⟩
    · rw [hlen] at h0; omega
    · rw [hlen] at h
      simp only [Value.slice.injEq] at h
      obtain ⟨rfl, _, rfl⟩ := h
      exact ⟨g, _, rfl, hb, ho', (g0.trans (g1.trans g2)).trans hg⟩
theorem own_frozen {w : World} {base g n cap : Nat} {e : TypeId} {xs : List Value} (h : OwnR w base e (.slice (some ⟨g, 0, none⟩) n cap) xs) (j : Nat) : w.frozen? ⟨g, j, none⟩ = false := by
  rcases h.2 with ⟨h', _⟩ | ⟨g', cap', cur, h', hb, hg, _⟩
  · simp at h'
  · simp only [Value.slice.injEq, Option.some.injEq, Addr.mk.injEq, and_true, true_and] at h'
    obtain ⟨rfl, _⟩ := h'
    simp [World.frozen?, hg]
theorem own_cell {w : World} {base g n cap : Nat} {e : TypeId} {xs : List Value} (h : OwnR w base e (.slice (some ⟨g, 0, none⟩) n cap) xs) (j : Nat) (hj : j < xs.length) : w.cell? ⟨g, j, none⟩ = some xs[j] := by
  have := h.cells (g := g) rfl j xs[j] (by simp [hj])
  rw [add_off, Nat.zero_add] at this
  exact this
theorem own_stored {w : World} {base g n cap : Nat} {e : TypeId} {xs : List Value} (h : OwnR w base e (.slice (some ⟨g, 0, none⟩) n cap) xs) (j : Nat) (u : Value) :
    OwnR (w.setCell ⟨g, j, none⟩ u) base e (.slice (some ⟨g, 0, none⟩) n cap) (xs.set j u) ∧ w.grownBy (w.setCell ⟨g, j, none⟩ u) (some g) := by
  rcases h.2 with ⟨h', _⟩ | ⟨g', cap', cur, h', hb, hg, hn, _⟩
  · simp at h'
  · have hlen : n = xs.length := by simp only [Value.slice.injEq] at h'; omega
    subst hlen
    have := World.ownsRow.stored h j u
    exact ⟨by unfold OwnR; rw [List.length_set]; exact this.1, this.2⟩
/-- The bytes, with how many bits they have, of which 'k' bytes are told. -/
def padk (l : List Nat) (m : Nat) : Nat → List Nat
  | 0 => l ++ 128 :: zeros m
  | k + 1 => (padk l m k).set (l.length + 1 + m - 1 - k) (8 * l.length / 2 ^ (8 * k) % 256)
theorem padk_len (l : List Nat) (m : Nat) : ∀ k, (padk l m k).length = l.length + 1 + m
  | 0 => by simp [padk, zeros_len]; omega
  | k + 1 => by unfold padk; rw [List.length_set, padk_len l m k]
set_option maxRecDepth 100000 in
set_option maxHeartbeats 1600000 in
theorem pad_w (l : List Nat) (v : Value) (w : World) (hl : l.length ≤ 1073741824) (hv : Shows w v (bys l)) :
    Calls Try.prog 10 #[v] w fun e w' => ∃ v' m, m = (64 - (l.length + 9) % 64) % 64 + 8 ∧ e = .returned v' ∧ OwnR w' w.heap.size 5 v' (bys (padk l m 8)) ∧ Grew w w' := by
  obtain ⟨p, c, rfl⟩ := shows_form hv
  rw [bys_len] at hv ⊢
  have HV := Lib.hid hv
  clear hv
  obtain ⟨nz, hnz⟩ : ∃ nz : Nat, (64 - ((l.length : Int) + 1 + 8) % 64) % 64 = (nz : Int) := ⟨((64 - ((l.length : Int) + 1 + 8) % 64) % 64).toNat, by omega⟩
  have hnz2 : nz < 64 := by omega
  obtain ⟨m, hm⟩ : ∃ m : Nat, (nz : Int) + 8 = (m : Int) := ⟨nz + 8, by omega⟩
  have hm2 : m ≤ 1099511627776 := by omega
  have HM := Lib.hid (show m = (64 - (l.length + 9) % 64) % 64 + 8 by omega)
  go_enter Try.func10, Try.ntmps10
  go_wp2_with (go_at_call 17; refine stop_of ?_)
  unfold Stop
  refine (pad_cat l p c m w hl (by omega) HV.out).mono ?_
  rintro e w' ⟨g, cap, rfl, hg, ho, hgr⟩
  simp only []
  go_wp2
  obtain ⟨N, hN⟩ : ∃ N, l.length + 1 + m = N := ⟨_, rfl⟩
  rw [hN] at ho ⊢
  have HO := Lib.hid ho
  have HG := Lib.hid hgr
  clear ho hgr hnz hm HV
  have hm8 : 8 ≤ m := by have := HM.out; omega
  go_loopw [20] (fun n wr => ∃ k : Nat, k ≤ 8 ∧ n = .int .i64 k ∧ OwnR wr w.heap.size 5 (.slice (some ⟨g, 0, none⟩) N cap) (bys (padk l m k)) ∧ Grew w wr) (fun n _ => 8 - (intOf n).toNat)
  case atStart => exact ⟨0, by omega, rfl, HO.out, HG.out⟩
  case round =>
    obtain ⟨k, hk, rfl, ho, hg2⟩ := hrel
    by_cases hn : k < 8
    · have hlt : (k : Int) < 8 := by omega
      have hpl := padk_len l m k
      rw [hN] at hpl
      obtain ⟨q, hq⟩ : ∃ q, N - 1 - k = q := ⟨_, rfl⟩
      have hq1 : (N : Int) - 1 - (k : Int) = (q : Int) := by omega
      have hq2 : q < N := by omega
      have hq3 : (q : Int) < (N : Int) := by omega
      have hfz := own_frozen ho q
      have hce := own_cell ho q (by rw [bys_len, hpl]; exact hq2)
      have hst := fun u => own_stored ho q u
      generalize (bys (padk l m k))[q]'(by rw [bys_len, hpl]; exact hq2) = old at hce
      go_wp2
      have hnum : (8 * (l.length : Int) / 2 ^ (8 * k) % 256) = ((8 * l.length / 2 ^ (8 * k) % 256 : Nat) : Int) := by
        rw [Int.natCast_emod, Int.natCast_ediv, Int.natCast_mul, Int.natCast_pow]; rfl
      have hb : bys (padk l m (k + 1)) = (bys (padk l m k)).set q (.int .u8 (8 * (l.length : Int) / 2 ^ (8 * k) % 256)) := by
        rw [hnum]
        unfold bys
        rw [← List.map_set]
        conv => lhs; unfold padk
        rw [hN, hq]
      refine ⟨⟨k + 1, by omega, by go_num, by rw [hb]; exact (hst _).1, Grew.grown hg2 (hst _).2 fun j hj => (by cases hj; exact hg)⟩, by simp only [intOf]; omega⟩
    · obtain rfl : k = 8 := by omega
      clear hk hn
      go_wp2
      go_ret
      exact ⟨_, m, HM.out, rfl, ho, hg2⟩
/-- The lowest 'k' bytes of a number, the greatest first. -/
def tailk (n : Nat) : Nat → List Nat
  | 0 => []
  | k + 1 => (n / 2 ^ (8 * k) % 256) :: tailk n k
theorem tailk_len (n : Nat) : ∀ k, (tailk n k).length = k
  | 0 => rfl
  | k + 1 => by simp [tailk, tailk_len n k]
theorem zeros_succ (n : Nat) : zeros (n + 1) = zeros n ++ [0] := by simp [zeros, List.replicate_succ']
theorem set_mid (a b : List Nat) (x y : Nat) : (a ++ x :: b).set a.length y = a ++ y :: b := by simp
theorem padk_eq (l : List Nat) (m : Nat) : ∀ k, k ≤ m → padk l m k = l ++ 128 :: (zeros (m - k) ++ tailk (8 * l.length) k)
  | 0, _ => by simp [padk, tailk]
  | k + 1, h => by
    unfold padk tailk
    rw [padk_eq l m k (by omega)]
    obtain ⟨j, hj⟩ : ∃ j, m - k = j + 1 := ⟨m - k - 1, by omega⟩
    rw [hj, zeros_succ, show m - (k + 1) = j by omega]
    have e : l.length + 1 + m - 1 - k = (l ++ 128 :: zeros j).length := by simp [zeros_len]; omega
    have := set_mid (l ++ 128 :: zeros j) (tailk (8 * l.length) k) 0 (8 * l.length / 2 ^ (8 * k) % 256)
    rw [e]
    rw [List.append_assoc, List.append_assoc] at this
    simp only [List.append_assoc, List.cons_append, List.nil_append, List.singleton_append] at this ⊢
    exact this
/-- What bytes become. -/
def pad (l : List Nat) : List Nat := l ++ 128 :: (zeros ((64 - (l.length + 9) % 64) % 64) ++ tailk (8 * l.length) 8)
theorem pad_len (l : List Nat) : (pad l).length = l.length + 9 + (64 - (l.length + 9) % 64) % 64 := by simp [pad, zeros_len, tailk_len]; omega
theorem tailk_lt (n : Nat) : ∀ k, ∀ c ∈ tailk n k, c < 256
  | 0 => by simp [tailk]
  | k + 1 => by
    intro c hc
    simp only [tailk, List.mem_cons] at hc
    rcases hc with rfl | hc
    · exact Nat.mod_lt _ (by omega)
    · exact tailk_lt n k c hc
theorem pad_lt (l : List Nat) (h : ∀ c ∈ l, c < 256) : ∀ c ∈ pad l, c < 256 := by
  intro c hc
  simp only [pad, List.mem_append, List.mem_cons, zeros, List.mem_replicate] at hc
  rcases hc with hc | rfl | ⟨_, rfl⟩ | hc
  · exact h c hc
  · omega
  · omega
  · exact tailk_lt _ _ c hc
theorem pad_w' (l : List Nat) (v : Value) (w : World) (hl : l.length ≤ 1073741824) (hv : Shows w v (bys l)) :
    Calls Try.prog 10 #[v] w fun e w' => ∃ v', e = .returned v' ∧ OwnR w' w.heap.size 5 v' (bys (pad l)) ∧ Grew w w' := by
  refine (pad_w l v w hl hv).mono ?_
  rintro e w' ⟨v', m, hm, rfl, ho, hg⟩
  refine ⟨v', rfl, ?_, hg⟩
  rw [padk_eq l m 8 (by omega), hm, Nat.add_sub_cancel] at ho
  exact ho
end Go.Proofs.Ytmnnmndnpkanlaa
