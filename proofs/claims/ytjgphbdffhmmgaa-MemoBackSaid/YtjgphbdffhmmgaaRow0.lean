/-
  What is read off bytes fits: lengths of what is taken.
-/
import Derived.Test.YtjgphbdffhmmgaaLaw7
import Derived.Test.YtjgphbdffhmmgaaLaw1
namespace Go.Proofs.Ytjgphbdffhmmgaa
set_option linter.unusedSimpArgs false
set_option linter.unusedVariables false
open Go Go.RowKit
set_option maxRecDepth 100000
set_option maxHeartbeats 2000000

theorem times_all {α : Type} (f : PS → α × PS) : ∀ (n : Nat) (s : PS) (x : α), x ∈ (times f n s).1 → ∃ s', x = (f s').1
  | 0, s, x, h => by rw [times_zero] at h; cases h
  | n + 1, s, x, h => by
    rw [times_succ] at h
    rcases List.mem_append.1 h with h | h
    · exact times_all f n s x h
    · simp only [List.mem_singleton] at h
      exact ⟨_, h⟩

theorem takeHop_ok (s : PS) : (takeHop s).1.Ok := by
  have h1 := num4_lt s
  have h2 := num8_lt (s.num 4).2
  have h3 := num8_lt ((s.num 4).2.num 8).2
  simp only [takeHop, Hop.Ok]
  exact ⟨by omega, by omega, by omega⟩
theorem takeTrail_hops (s : PS) : ∀ h, h ∈ (takeTrail s).1 → h.Ok := by
  intro h hh
  simp only [takeTrail] at hh
  split at hh
  · cases hh
  · obtain ⟨s', rfl⟩ := times_all _ _ _ _ hh
    exact takeHop_ok s'
theorem takeTrail_le (s : PS) : (takeTrail s).1.length ≤ 7 := by
  simp only [takeTrail]
  split
  · simp
  · rw [times_len]; exact many_le 7 s
theorem takeSig_way (s : PS) : (∀ d, d ∈ (takeSig s).1.way → d.length = 32) ∧ (takeSig s).1.way.length ≤ 8 := by
  simp only [takeSig]
  split
  · exact ⟨fun d h => (by cases h), by simp [Sig.zero]⟩
  · refine ⟨fun d h => ?_, ?_⟩
    · obtain ⟨s', rfl⟩ := times_all _ _ _ _ h
      exact sum_len s'
    · simp only [times_len]; exact many_le 8 _
theorem takeSig_fit (s : PS) : (takeSig s).1.Fit := ⟨(takeSig_lens s).1, (takeSig_lens s).2, (takeSig_way s).1⟩
theorem Sig.zero_fit : Sig.zero.Fit := ⟨zb_length 512, zb_length 512, fun _ h => (by cases h)⟩

structure Memo.Small (m : Memo) : Prop where
  full : m.Full
  trail : m.trail.length ≤ 7
  way : m.sig.way.length ≤ 8
theorem small_zero {k : Int} {c : Nat} : (Memo.mk k c 0 Oop.zero [] Sig.zero).Small := ⟨⟨Memo.Fit.zero', Sig.zero_fit⟩, by simp, by simp [Sig.zero]⟩
theorem readBody_small (k ch : Nat) (s : PS) : (readBody k ch s).1.Small := by
  by_cases h0 : k = 0
  · subst h0; rw [readBody0]; exact small_zero
  · by_cases h1 : k = 1
    · subst h1; rw [readBody1]
      exact ⟨⟨⟨takeOp_hash _, (takeSig_lens _).1, (takeSig_lens _).2⟩, takeSig_fit _⟩, takeTrail_le _, (takeSig_way _).2⟩
    · by_cases h2 : k = 2
      · subst h2; rw [readBody2]
        exact ⟨⟨⟨zb_length 32, (takeSig_lens _).1, (takeSig_lens _).2⟩, takeSig_fit _⟩, by simp, (takeSig_way _).2⟩
      · rw [readBody3 k ch s h0 h1 h2]; exact small_zero
theorem readMemo_small (l : List UInt8) : (readMemo l).1.Small := by
  have key : ∀ (s : PS) (m : Memo), m.Small → (if s.fin.bad ≠ 0 then (Memo.zero, s.fin.bad) else (m, (0 : Int))).1.Small := by
    intro s m h
    split
    · exact small_zero
    · exact h
  exact key _ _ (readBody_small _ _ _)

end Go.Proofs.Ytjgphbdffhmmgaa
