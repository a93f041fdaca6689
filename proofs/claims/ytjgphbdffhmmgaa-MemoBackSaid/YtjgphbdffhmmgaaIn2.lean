/-
  What the program's reader of bytes does: cut.
-/
import Derived.Test.YtjgphbdffhmmgaaIn1
namespace Go.Proofs.Ytjgphbdffhmmgaa
set_option linter.unusedSimpArgs false
set_option linter.unusedVariables false
open Go Go.RowKit
set_option maxRecDepth 100000

def CutPost (w : World) (b : Nat) (v : Value) (s : PS) (n : Nat) (e : Ending) (w' : World) : Prop :=
  ∃ p v', e = .returned p ∧ St w [b] w' [inBlk b v' (s.cut n).2.bad] ∧ SubV v s.rest v' (s.cut n).2.rest ∧ InV w b p (s.cut n).1

theorem cut_ok (n : Nat) (hn1 : 1 ≤ n) (hn : n ≤ 4096) (b : Nat) (v : Value) (s : PS) (w : World) (hb : Holds w (inBlk b v s.bad)) (hv : InV w b v s.rest) :
    Calls Try.prog 62 #[.pointer (some ⟨b, 0, none⟩), .int .i64 n] w (CutPost w b v s n) := by
  obtain ⟨l, bad⟩ := s
  have hS := in_start hb
  by_cases hbad : bad = 0
  · subst hbad
    by_cases hlen : l.length < n
    · have hvv : ∃ a c, v = .slice a l.length c := by
        rcases hv with ⟨rfl, rfl⟩ | ⟨g, off, cap, cs, T, fr, rfl, _⟩
        · exact ⟨_, _, rfl⟩
        · exact ⟨_, _, rfl⟩
      obtain ⟨a, c, rfl⟩ := hvv
      clear hv
      go_enter Try.func62, Try.ntmps62
      go_wp2_with (first | ((with_reducible show wpList _ _ _ (Oper.mk _ (Op.load _ _) _ _ _ _ :: _) _ _); refine wpl rfl ?_; refine (owp_load1 hS 0 rfl rfl rfl rfl ?_)) | (go_at_call 13; refine (bad_ok b _ _ _ hb).mono ?_; rintro e w' ⟨rfl, rfl⟩))
      refine (fail_ok b _ ⟨l, 0⟩ 9 _ hb).mono ?_
      rintro e w' ⟨rfl, v', hs, hsub⟩
      go_wp2_with fail
      go_ret
      exact ⟨_, v', rfl, by simpa [PS.cut, hlen, PS.fail] using hs, by simpa [PS.cut, hlen, PS.fail] using hsub, .inl ⟨rfl, by simp [PS.cut, hlen]⟩⟩
    · rcases hv with ⟨rfl, rfl⟩ | ⟨g, off, cap, cs, T, fr, rfl, hc, hm, hne, hg, hbs⟩
      · simp at hlen; omega
      · have hle : n ≤ l.length := by omega
        have hm' := hm
        unfold maxLen at hm
        have hcc : l.length ≤ cap := hc
        clear hlen hc
        have hcap : (n : Int) ≤ cap := by omega
        have hlen' : (n : Int) ≤ l.length := by omega
        have hcut : (PS.cut n ⟨l, 0⟩) = (l.take n, ⟨l.drop n, 0⟩) := by
          unfold PS.cut
          simp only [ne_eq, not_true_eq_false, if_false]
          rw [if_neg (by omega)]
        have Hcut := Lib.hid hcut
        clear hcut
        have hfin : ∀ (w1 : World) (p v' : Value), St w [b] w1 [inBlk b v' 0] → (∃ k, p = .slice (some ⟨g, off, none⟩) n k ∧ n ≤ k ∧ k ≤ maxLen) →
            (∃ o k, v' = .slice (some ⟨g, o, none⟩) (l.length - n) k ∧ k = cap - n ∧ (l.length - n = 0 ∨ o = off + n)) → CutPost w b (.slice (some ⟨g, off, none⟩) l.length cap) ⟨l, 0⟩ n (.returned p) w1 := by
          rintro w1 p v' hs ⟨k, rfl, hk, hkm⟩ ⟨o, k', rfl, rfl, ho⟩
          refine ⟨_, .slice (some ⟨g, o, none⟩) (l.length - n) (cap - n), rfl, ?_, ?_, ?_⟩
          · rw [Hcut.out]; exact hs
          · rw [Hcut.out]
            intro w2 b2 hi
            rcases hi with ⟨h, _⟩ | ⟨g', off', cap', cs', T', fr', hv, hc', hm2, hne', hg', hb'⟩
            · cases h
            · simp only [Value.slice.injEq, Option.some.injEq, Addr.mk.injEq, and_true] at hv
              obtain ⟨⟨rfl, rfl⟩, -, rfl⟩ := hv
              refine .inr ⟨g, o, cap - n, cs', T', fr', ?_, ?_, ?_, hne', hg', ?_⟩
              · simp
              · simp; omega
              · omega
              · rcases ho with h0 | rfl
                · have hz : (l.drop n).length = 0 := by simp; omega
                  have hz' := List.eq_nil_of_length_eq_zero hz
                  show List.take (l.drop n).length _ = bs (l.drop n)
                  rw [hz']; simp [bs]
                · show List.take (l.drop n).length _ = bs (l.drop n)
                  rw [← bs_drop, ← hb', List.drop_take, List.drop_drop, List.length_drop]
          · rw [Hcut.out]
            refine .inr ⟨g, off, k, cs, T, fr, ?_, ?_, hkm, hne, hg, ?_⟩
            · simp [hle]
            · simp; omega
            · show List.take (l.take n).length _ = bs (l.take n)
              rw [← bs_take, ← hbs, List.length_take, Nat.min_eq_left hle, List.take_take, Nat.min_eq_left hle]
        clear hbs hg hne
        have hwcap : cap - n ≤ cap := by omega
        have Hfin := Lib.hid hfin
        clear hfin
        go_enter Try.func62, Try.ntmps62
        go_wp2_with (first | ((with_reducible show wpList _ _ _ (Oper.mk _ (Op.load _ _) _ _ _ _ :: _) _ _); refine wpl rfl ?_; refine (owp_load1 hS 0 rfl rfl rfl rfl ?_)) | ((with_reducible show wpList _ _ _ (Oper.mk _ (Op.store _ _ _) _ _ _ _ :: _) _ _); refine wpl rfl ?_; refine (owp_store1 hS 0 rfl rfl rfl rfl rfl (by simp) rfl ?_); clear hS; intro _ hS; try simp [Act.eval] at hS) | (go_at_call 13; refine (bad_ok b _ _ _ hb).mono ?_; rintro e w' ⟨rfl, rfl⟩))
        all_goals go_ret
        · have hcn : cap = n := by assumption
          subst hcn
          show CutPost w b _ _ _ (.returned (.slice (some ⟨g, off, none⟩) cap cap)) _
          exact Hfin.out _ _ _ hS ⟨cap, rfl, Nat.le_refl _, hm'⟩ ⟨off, 0, by simp, by omega, .inl (by omega)⟩
        · have hcn : ¬ cap = n := by assumption
          show CutPost w b _ _ _ (.returned (.slice (some ⟨g, off, none⟩) n cap)) _
          exact Hfin.out _ _ _ hS ⟨cap, rfl, by omega, hm'⟩ ⟨off + n, cap - n, by simp [hcn], rfl, .inr rfl⟩
  · go_enter Try.func62, Try.ntmps62
    have hbb : (bad != 0) = true := by simpa using hbad
    go_wp2_with (first | ((with_reducible show wpList _ _ _ (Oper.mk _ (Op.load _ _) _ _ _ _ :: _) _ _); refine wpl rfl ?_; refine (owp_load1 hS 0 rfl rfl rfl rfl ?_)) | (go_at_call 13; refine (bad_ok b _ _ _ hb).mono ?_; rintro e w' ⟨rfl, rfl⟩))
    go_ret
    exact ⟨_, v, rfl, by simpa [PS.cut, hbad] using hS, by simpa [PS.cut, hbad] using SubV.refl v l, .inl ⟨rfl, by simp [PS.cut, hbad]⟩⟩

end Go.Proofs.Ytjgphbdffhmmgaa
