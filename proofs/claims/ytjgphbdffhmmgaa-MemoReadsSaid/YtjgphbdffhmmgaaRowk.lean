/-
  From the reading of an argument to the walk's own words: bytes that came in; what a call has left alone.
-/
import Derived.Test.YtjgphbdffhmmgaaOut1
import Derived.Below
import Derived.ProofKit
namespace Go.Proofs.Ytjgphbdffhmmgaa
set_option linter.unusedSimpArgs false
set_option linter.unusedVariables false
open Go Go.RowKit

theorem St.below {w w' : World} {L : List Ent} (h : St w [] w' L) : Below w.heap.size w w' := ⟨h.os, h.tape, h.output, h.size, fun k hk => h.keep k hk (by simp)⟩

theorem rowR_of_ints (x : Addr) (len0 cap0 : Nat) (z0 : List Int) (w : World) (hl : len0 ≤ cap0) (hz : z0.length = cap0) (hcell : ∀ i, i < z0.length → w.cell? (x.add i) = some (.int .u8 (z0.getD i 0)))
    (hwz : ∀ n ∈ z0, (Lit.int .u8 n).wf = true) : ∃ l : List UInt8, l.length = len0 ∧ RowR w 1 (.slice (some x) l.length cap0) l.length (bs l) := by
  have hlen : ((z0.take len0).map (fun n => UInt8.ofNat n.toNat)).length = len0 := by
    rw [List.length_map, List.length_take]; omega
  refine ⟨(z0.take len0).map (fun n => UInt8.ofNat n.toNat), hlen, by rw [bs_length, Nat.mul_one], .inr ⟨x, cap0, rfl, by omega, ?_, ?_⟩⟩
  · by_cases h0 : len0 = 0
    · exact .inl (by omega)
    · right
      obtain ⟨b, off, spot⟩ := x
      have hc := hcell 0 (by omega)
      simpa [Addr.add] using World.cell?_spot hc
  · intro j v hj
    have hj1 := (List.getElem?_eq_some_iff.1 hj).1
    rw [bs_length, hlen] at hj1
    have hj2 : j < z0.length := by omega
    have hw := hwz (z0[j]) (List.getElem_mem hj2)
    have h2 : 0 ≤ z0[j] ∧ z0[j] ≤ 255 := by
      simp [Lit.wf, IntKind.min, IntKind.max, IntKind.signed, IntKind.bits] at hw
      omega
    rw [hcell j hj2]
    have e : z0.getD j 0 = z0[j] := by simp [List.getD, List.getElem?_eq_getElem hj2]
    rw [e]
    simp only [bs, List.getElem?_map, List.getElem?_take, hj1, if_true, List.getElem?_eq_getElem hj2, Option.map_some, Option.some.injEq, B_ofNat] at hj
    rw [← hj, Nat.mod_eq_of_lt (by omega), Int.toNat_of_nonneg h2.1]

end Go.Proofs.Ytjgphbdffhmmgaa
