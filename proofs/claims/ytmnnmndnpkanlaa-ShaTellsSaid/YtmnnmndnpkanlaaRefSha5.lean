/- The document's Sum. -/
import Derived.Test.YtmnnmndnpkanlaaRefSha3
import Derived.Test.YtmnnmndnpkanlaaRefSha4
import Derived.Test.YtmnnmndnpkanlaaSumW
namespace Go.Proofs.Ytmnnmndnpkanlaa
set_option linter.unusedVariables false
set_option linter.unusedSimpArgs false
open Go.RowKit
theorem rfirst_w (w : World) : Calls Try.prog 20 #[] w fun e w' => ∃ g, e = .returned (.slice (some ⟨g, 0, none⟩) 8 8) ∧ (∀ j, j < 8 → w'.cell? ⟨g, j, none⟩ = some (.int .u32 (u (wordAt words0 j)))) ∧ Grew w w' := by
  go_enter Try.func20, Try.ntmps20
  go_wp2
  go_ret
  refine ⟨w.heap.size, rfl, fun j hj => ?_, (by repeat (first | with_reducible exact Grew.refl _ | with_reducible apply Grew.alloc | with_reducible apply Grew.grow | with_reducible apply Grew.drew | with_reducible apply Grew.drewN))⟩
  have h := own_alloc w w.heap.size 39 (wsl words0) (Nat.le_refl _) (by decide)
  have h2 := own_cell h j (by rw [wsl_len]; exact hj)
  rw [wsl_at] at h2
  exact h2
theorem rpad_o (l : List Nat) (v : Value) (w : World) (hl : l.length ≤ 1073741824) (hv : Shows w v (bys l)) :
    Calls Try.prog 11 #[v] w fun e w' => ∃ b cap N, e = .returned (.slice (some ⟨b, 0, none⟩) N cap) ∧ (N = (pad l).length ∧ N ≤ cap) ∧ cap ≤ maxLen ∧ b < w'.heap.size ∧
      (∀ j, j < N → w'.cell? ⟨b, j, none⟩ = some (.int .u8 (byteAt (pad l) j : Nat))) ∧ Grew w w' := by
  refine (rpad_w l v w hl hv).mono ?_
  rintro e w' ⟨v', rfl, ho, hg⟩
  have hp := pad_len l
  obtain ⟨g, cap, rfl, _, hgs, hgc, hgm, hcell⟩ := own_form ho (by rw [bys_len]; omega)
  rw [bys_len] at hgc hcell ⊢
  refine ⟨g, cap, _, rfl, ⟨rfl, hgc⟩, hgm, hgs, fun j hj => ?_, hg⟩
  rw [hcell j hj, ← byteAt_eq' (pad l) j hj]
set_option maxRecDepth 100000 in
set_option maxHeartbeats 6400000 in
theorem rsum_w (l : List Nat) (v : Value) (w : World) (hl : l.length ≤ 1073741824) (hb : ∀ c ∈ l, c < 256) (hv : Shows w v (bys l)) :
    Calls Try.prog 13 #[v] w fun e w' => e = .returned (.agg (iv (sum l))) ∧ Grew w w' := by
  have HV := Lib.hid hv
  clear hv
  go_enter Try.func13, Try.ntmps13
  go_wp2_with (go_at_call 11; refine (rpad_o l v _ hl (HV.out.grew (by repeat (first | with_reducible exact Grew.refl _ | with_reducible apply Grew.alloc | with_reducible apply Grew.grow | with_reducible apply Grew.drew | with_reducible apply Grew.drewN)))).mono ?_; rintro e w2 ⟨b, cap, N, rfl, hK, hcap, hb2, hcs, hg2⟩; have HK := Lib.hid hK; clear hK; refine stop_of ?_)
  unfold Stop
  have HCS := Lib.hid hcs
  have HG2 := Lib.hid (show Grew (w.alloc (.cells (iv id0) 26)) w2 from hg2)
  clear hcs hg2
  go_wp2_with (go_at_call 20; refine (rfirst_w _).mono ?_; rintro e w3 ⟨g0, rfl, hc3, hg3⟩; refine stop_of ?_)
  unfold Stop
  have hg23 := HG2.out.trans hg3
  have r1 : w3.rowAt w.heap.size = iv id0 := by rw [Grew.rowAt hg23 _ (by simp)]; simp [go_sem]
  have r2 : w3.rowFree w.heap.size = true := by rw [Grew.rowFree hg23 _ (by simp)]; simp [go_sem]
  have HCS3 := Lib.hid (fun j hj => hg3.cell (HCS.out j hj))
  have hgw3 : Grew w w3 := (show Grew w _ from (by repeat (first | with_reducible exact Grew.refl _ | with_reducible apply Grew.alloc | with_reducible apply Grew.grow | with_reducible apply Grew.drew | with_reducible apply Grew.drewN))).trans hg23
  have HG3 := Lib.hid hgw3
  have HC3 := Lib.hid hc3
  have hp := Lib.hid (And.intro (pad_mod l) (pad_len l))
  have z1 : w.heap.size < w3.heap.size := by have := hg23.size; simp at this; omega
  have z2 : b < w3.heap.size := Nat.lt_of_lt_of_le hb2 hg3.size
  clear hc3 hg3 hg23 hgw3 HCS HG2 hb2
  go_wp2
  go_loopw [5, 4] (fun n v wr => ∃ (k i g c : Nat), i = 64 * k ∧ i ≤ N ∧ n = .int .i64 (i : Nat) ∧ v = .slice (some ⟨g, 0, none⟩) 8 c ∧ (∀ j, j < 8 → wr.cell? ⟨g, j, none⟩ = some (.int .u32 (u (wordAt (sumk (pad l) k) j)))) ∧ Grew w3 wr) (fun n _ _ => N - (intOf n).toNat)
  case atStart => exact ⟨0, 0, g0, 8, rfl, by omega, rfl, rfl, HC3.out, Grew.refl _⟩
  case round =>
    obtain ⟨k, i, g, c, hik, hiN, rfl, rfl, hcells, hgr⟩ := hrel
    have HC := Lib.hid hcells
    have HG := Lib.hid hgr
    have HIK := Lib.hid hik
    have z3 := hgr.size
    clear hcells hgr HC3 hik
    by_cases hn : i < N
    · have hlt : (i : Int) < (N : Int) := by omega
      have h64 : i + 64 ≤ N := by have := hp.out; have := HK.out; have := HIK.out; omega
      have h64' : (i : Int) + 64 ≤ (N : Int) := by omega
      have hNb : (N : Int) ≤ 2000000000 := by have := hp.out; have := HK.out; omega
      have hNc : (N : Int) ≤ (cap : Int) := by have := HK.out; omega
      have hic : (i : Int) + 64 ≤ (cap : Int) := by omega
      have hii : (i : Int) ≤ (i : Int) + 64 := by omega
      clear hiN
      go_wp2_with (go_at_call 22; refine stop_of ?_)
      unfold Stop
      have hcw : ∀ j, j < 64 → wr.cell? ⟨b, i + j, none⟩ = some (.int .u8 (byteAt ((pad l).drop i) j : Nat)) := fun j hj => by
        rw [byteAt_drop]; exact HG.out.cell (HCS3.out (i + j) (by omega))
      have hpb : ∀ c ∈ (pad l).drop i, c < 256 := fun c hc => pad_lt l hb c (List.mem_of_mem_drop hc)
      refine (rwords_w ((pad l).drop i) hpb b i (cap - i) wr hcw).mono ?_
      rintro e w4 ⟨vw, rfl, how, hgw⟩
      have hsl64 : (sched ((pad l).drop i) 64).length = 64 := sched_len _ _
      obtain ⟨gw, capw, rfl, _, hgws, _, _, hwcell⟩ := own_form how (by rw [wsl_len, hsl64]; omega)
      rw [wsl_len, hsl64] at hwcell ⊢
      have HWC := Lib.hid (fun j (hj : j < 64) => (hwcell j hj).trans (wsl_get _ j (by rw [hsl64]; exact hj)))
      have HC4 := Lib.hid (fun j hj => hgw.cell (HC.out j hj))
      have HG4 := Lib.hid (HG.out.trans hgw)
      clear hwcell hgw how hcw hpb HC HG z3
      go_wp2_with (go_at_call 21; refine stop_of ?_)
      unfold Stop
      have hskl : (sumk (pad l) k).length = 8 := by rw [← sumOf_range]; exact sumOf_len _ _
      refine (rrounds_w (sumk (pad l) k) (sched ((pad l).drop i) 64) hskl hsl64 g gw c capw w4 HC4.out HWC.out).mono ?_
      rintro e w5 ⟨vr, rfl, hor, hgr⟩
      rw [addk_8] at hor
      have hcl : (compress (sumk (pad l) k) ((pad l).drop i)).length = 8 := compress_len _ _
      obtain ⟨gr, capr, rfl, _, hgrs, _, _, hrcell⟩ := own_form hor (by rw [wsl_len, hcl]; omega)
      rw [wsl_len, hcl] at hrcell ⊢
      have HRC := Lib.hid (fun j (hj : j < 8) => (hrcell j hj).trans (wsl_get _ j (by rw [hcl]; exact hj)))
      have HG5 := Lib.hid (HG4.out.trans hgr)
      clear hrcell hgr hor HC4 HG4 HWC
      go_wp2
      exact ⟨⟨k + 1, i + 64, gr, capr, by have := HIK.out; omega, by omega, by go_num, rfl, (by rw [HIK.out] at HRC; exact HRC.out), HG5.out⟩, by simp only [intOf]; omega⟩
    · obtain rfl : i = N := by omega
      have hsum : sum l = outk (sumk (pad l) k) 32 := by
        have := HK.out.1
        have := HIK.out
        unfold sum
        rw [show (pad l).length / 64 = k by omega]
      have HSUM := Lib.hid hsum
      obtain ⟨S, hS⟩ : ∃ S, sumk (pad l) k = S := ⟨_, rfl⟩
      have hSl : S.length = 8 := by rw [← hS, ← sumOf_range]; exact sumOf_len _ _
      rw [hS] at HC HSUM
      have q1 : wr.rowAt w.heap.size = iv id0 := by rw [Grew.rowAt HG.out _ z1]; exact r1
      have q2 : wr.rowFree w.heap.size = true := by rw [Grew.rowFree HG.out _ z1]; exact r2
      have HGW := Lib.hid (HG3.out.trans HG.out)
      have z4 : w.heap.size < wr.heap.size := by omega
      have z5 : g < wr.heap.size := World.block_lt_of_cell? wr _ (HC.out 0 (by omega))
      clear r1 r2 hp HCS3 HK hiN hn HG HG3 HIK hsum hS z1 z2 z3
      go_wp2
      go_loopw [7] (fun n wr2 => ∃ m : Nat, m ≤ 8 ∧ n = .int .i64 m ∧ wr2 = wr.alloc (.cells (iv (outk S (4 * m))) 26)) (fun n _ => 8 - (intOf n).toNat)
      case atStart => exact ⟨0, by omega, rfl, by rw [Nat.mul_zero, outk_0]⟩
      case round =>
        obtain ⟨m, hm, rfl, rfl⟩ := hrel
        by_cases hm8 : m < 8
        · have hlt : (m : Int) < 8 := by omega
          have hcx := HC.out m hm8
          have hx := u_bd (wordAt S m)
          have ol := outk_len S
          have w0 : wordByte S (4 * m) = (wordAt S m).toNat / 16777216 := by
            unfold wordByte
            rw [show 4 * m / 4 = m by omega, show 24 - 8 * (4 * m % 4) = 24 by omega]
            have := (wordAt S m).isLt
            omega
          have w1 : wordByte S (4 * m + 1) = (wordAt S m).toNat / 65536 % 256 := by
            unfold wordByte
            rw [show (4 * m + 1) / 4 = m by omega, show 24 - 8 * ((4 * m + 1) % 4) = 16 by omega]
          have w2 : wordByte S (4 * m + 2) = (wordAt S m).toNat / 256 % 256 := by
            unfold wordByte
            rw [show (4 * m + 2) / 4 = m by omega, show 24 - 8 * ((4 * m + 2) % 4) = 8 by omega]
          have w3 : wordByte S (4 * m + 3) = (wordAt S m).toNat % 256 := by
            unfold wordByte
            rw [show (4 * m + 3) / 4 = m by omega, show 24 - 8 * ((4 * m + 3) % 4) = 0 by omega, Nat.pow_zero, Nat.div_one]
          have s0 := iv_set' (outk S (4 * m)) (4 * m) (wordByte S (4 * m))
          have s1 := iv_set' (outk S (4 * m + 1)) (4 * m + 1) (wordByte S (4 * m + 1))
          have s2 := iv_set' (outk S (4 * m + 2)) (4 * m + 2) (wordByte S (4 * m + 2))
          have s3 := iv_set' (outk S (4 * m + 3)) (4 * m + 3) (wordByte S (4 * m + 3))
          rw [outk_set] at s0 s1 s2 s3
          have a0 := iv_at (outk S (4 * m)) (4 * m) (by rw [ol]; omega)
          have a1 := iv_at (outk S (4 * m + 1)) (4 * m + 1) (by rw [ol]; omega)
          have a2 := iv_at (outk S (4 * m + 2)) (4 * m + 2) (by rw [ol]; omega)
          have a3 := iv_at (outk S (4 * m + 3)) (4 * m + 3) (by rw [ol]; omega)
          obtain ⟨x, hxx⟩ : ∃ x, wordAt S m = x := ⟨_, rfl⟩
          rw [hxx] at hcx hx w0 w1 w2 w3
          have x1 := hx.1
          have x2 : u x ≤ 4294967295 := by omega
          have e0 : u x / 16777216 = ((wordByte S (4 * m) : Nat) : Int) := by rw [w0]; unfold u; omega
          have e1 : u x / 65536 % 256 = ((wordByte S (4 * m + 1) : Nat) : Int) := by rw [w1]; unfold u; omega
          have e2 : u x / 256 % 256 = ((wordByte S (4 * m + 2) : Nat) : Int) := by rw [w2]; unfold u; omega
          have e3 : u x % 256 = ((wordByte S (4 * m + 3) : Nat) : Int) := by rw [w3]; unfold u; omega
          have y0 := wordByte_lt S (4 * m)
          have y1 := wordByte_lt S (4 * m + 1)
          have y2 := wordByte_lt S (4 * m + 2)
          have y3 := wordByte_lt S (4 * m + 3)
          have i0 : 4 * (m : Int) < 32 := by omega
          have i1 : 4 * (m : Int) + 1 < 32 := by omega
          have i2 : 4 * (m : Int) + 2 < 32 := by omega
          have i3 : 4 * (m : Int) + 3 < 32 := by omega
          clear w0 w1 w2 w3 hxx hx hm hm8
          go_wp2
          exact ⟨⟨m + 1, by omega, by go_num, rfl⟩, by simp only [intOf]; omega⟩
        · obtain rfl : m = 8 := by omega
          have ol := outk_len S 32
          clear hm hm8
          go_wp2
          refine bodyPost_ret (id_result rfl _ rfl (l := outk S 32) ?_ ol) rfl ⟨by rw [HSUM.out], (Grew.setRow_new HGW.out _ _ (Nat.le_refl _)).alloc _⟩
          rw [rowAt_alloc_past _ _ _ (by rw [setRow_size]; exact z4), rowAt_setRow_free _ _ _ q2]
end Go.Proofs.Ytmnnmndnpkanlaa
