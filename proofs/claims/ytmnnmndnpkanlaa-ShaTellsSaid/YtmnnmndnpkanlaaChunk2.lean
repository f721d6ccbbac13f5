/- slices.Chunk of bytes, by 64: it hands back what hands out the parts, one by one. -/
import Derived.Test.YtmnnmndnpkanlaaChunk
namespace Go.Proofs.Ytmnnmndnpkanlaa
set_option linter.unusedVariables false
set_option linter.unusedSimpArgs false
open Go.RowKit Go.Shelf
attribute [local go_sem] Oper.semAt_some
set_option maxHeartbeats 1000000 in
theorem chunk_in (F : Fence) (n : Nat) (hf : F.fn 18) (hro : F.round = none) (a : Option Addr) (len cap : Nat) (w : World) :
    CallsIn F n Try.prog 18 #[.slice a len cap, .int .i64 64] w fun e w' => e = .returned (.func (.func 25) #[] #[.pointer (some ⟨w.heap.size, 0, none⟩), .pointer (some ⟨w.heap.size + 1, 0, none⟩)]) ∧
      w' = (w.alloc (.cells #[.slice a len cap] 22)).alloc (.cells #[.int .i64 64] 3) := by
  refine callsIn_of_wp Try.func18 rfl hf ?_ hro
  simp only [Try.ntmps18, List.size_toArray, List.length_cons, List.length_nil, Nat.reduceAdd, Nat.reduceSub, Array.replicate_succ, Array.replicate_zero, List.push_toArray, List.append_toArray, List.nil_append, List.cons_append]
  gi_wp2
  go_ret
  exact ⟨rfl, rfl⟩
/-- A part's number. -/
abbrev Part (K : Nat) := { c : Nat // c < K }
theorem chunk_stops (F : Fence) (n : Nat) (hf : F.fn 25) (hro : F.round = none) (hn : 1 ≤ n) (Bs Bn g n1 b off K cap : Nat) (hK : K ≤ 100000000) (hb : b < n1) (hbg : b ≠ g) (hs : Bs < n1) (hsg : Bs ≠ g) (ht : Bn < n1) (htg : Bn ≠ g)
    (w : World) (hn1 : n1 ≤ w.heap.size) (cs : w.cell? ⟨Bs, 0, none⟩ = some (.slice (some ⟨b, off, none⟩) (64 * K) cap)) (cn : w.cell? ⟨Bn, 0, none⟩ = some (.int .i64 64)) (hcap : 64 * K ≤ cap) (hcap2 : cap ≤ maxLen) :
    SeqStopsK F n Try.prog 25 #[.pointer (some ⟨Bs, 0, none⟩), .pointer (some ⟨Bn, 0, none⟩)] (fun x : Part K => #[Value.slice (some ⟨b, off + 64 * x.1, none⟩) 64 64]) (KeptBut g n1)
      (fun ys => ys.map (·.1) = List.range K) (fun _ => True) K w := fun l J Jx W hW hJ hJx hY h0 => by
  have cs' := (hW.cell (p := ⟨Bs, 0, none⟩) (Nat.lt_of_lt_of_le hs hn1)).trans cs
  have cn' := (hW.cell (p := ⟨Bn, 0, none⟩) (Nat.lt_of_lt_of_le ht hn1)).trans cn
  refine (chunk1_in F n hf hro hn l Bs Bn g n1 b off K cap hK hb hbg hs hsg ht htg (fun ys W => ∃ zs : List (Part K), zs.map (·.1) = ys ∧ J zs W) (fun ys W => ∃ zs : List (Part K), zs.map (·.1) = ys ∧ Jx zs W) ?_ W cs' cn' hcap hcap2 ?_ ⟨[], rfl, h0⟩).mono ?_
  · rintro pre x W1 ⟨zs, rfl, hJz⟩ hlen hx
    obtain ⟨fn, tmps, assign, body, hy, hR⟩ := hY zs ⟨x, hx⟩ W1 hJz (by simpa using hlen)
    refine ⟨fn, tmps, assign, body, hy, hR.mono ?_⟩
    rintro e W2 (⟨rfl, h1, h2⟩ | ⟨rfl, h1⟩)
    · exact .inl ⟨rfl, ⟨_, by simp, h1⟩, h2⟩
    · exact .inr ⟨rfl, ⟨_, by simp, h1⟩⟩
  · rintro s A B row ⟨zs, e, hs⟩ hg hr
    exact ⟨zs, e, hJ zs A B row hs hg hr⟩
  · rintro e W' ⟨he, ⟨ys, rfl, zs, e1, h1⟩ | ⟨pre, _, zs, e1, h1⟩⟩
    · exact ⟨he, .inl ⟨zs, e1, h1⟩⟩
    · exact ⟨he, .inr ⟨zs, trivial, h1⟩⟩
end Go.Proofs.Ytmnnmndnpkanlaa
