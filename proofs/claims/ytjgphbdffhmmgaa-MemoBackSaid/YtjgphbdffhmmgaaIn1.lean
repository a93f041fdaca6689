/-
  What the program's reader of bytes does, method by method. Conditions: the reader's block and its bytes are known.
-/
import Derived.Test.YtjgphbdffhmmgaaTypes
namespace Go.Proofs.Ytjgphbdffhmmgaa
set_option linter.unusedSimpArgs false
set_option linter.unusedVariables false
open Go Go.RowKit
set_option maxRecDepth 100000

/-- A slice that holds these bytes, off a block b. -/
def InV (w : World) (b : Nat) (v : Value) (l : List UInt8) : Prop :=
  (v = .slice none 0 0 ∧ l = []) ∨ ∃ g off cap cs T fr, v = .slice (some ⟨g, off, none⟩) l.length cap ∧ l.length ≤ cap ∧ cap ≤ maxLen ∧ g ≠ b ∧ w.heap[g]? = some (.cells cs T fr) ∧ (cs.toList.drop off).take l.length = bs l
def SubV (v : Value) (l : List UInt8) (v' : Value) (l' : List UInt8) : Prop := ∀ w b, InV w b v l → InV w b v' l'

theorem SubV.refl (v : Value) (l : List UInt8) : SubV v l v l := fun _ _ h => h
theorem SubV.trans {v l v' l' v'' l''} (h : SubV v l v' l') (k : SubV v' l' v'' l'') : SubV v l v'' l'' := fun w b hh => k w b (h w b hh)
theorem SubV.none (v : Value) (l : List UInt8) : SubV v l (.slice none 0 0) [] := fun _ _ _ => .inl ⟨rfl, rfl⟩

theorem InV.st {w0 w : World} {b : Nat} {v : Value} {l : List UInt8} {A : List Nat} {L : List Ent} (h : InV w0 b v l) (hS : St w0 A w L) (hA : A = [b] ∨ A = []) : InV w b v l := by
  rcases h with h | ⟨g, off, cap, cs, T, fr, hv, hc, hm, hne, hg, hb⟩
  · exact .inl h
  · refine .inr ⟨g, off, cap, cs, T, fr, hv, hc, hm, hne, ?_, hb⟩
    rw [hS.keep g (lt_of_some hg) (by rcases hA with rfl | rfl <;> simp [hne])]
    exact hg

theorem InV.read {w : World} {b : Nat} {v : Value} {l : List UInt8} (h : InV w b v l) : RowR w 1 v l.length (bs l) := by
  refine ⟨by simp [bs_length], ?_⟩
  rcases h with ⟨rfl, rfl⟩ | ⟨g, off, cap, cs, T, fr, rfl, hc, hm, hne, hg, hb⟩
  · exact .inl ⟨rfl, rfl⟩
  · refine .inr ⟨_, cap, rfl, hc, .inr rfl, ?_⟩
    rw [← hb]
    exact CellsAt.row hg

abbrev inBlk (b : Nat) (v : Value) (bad : Int) : Ent := some (b, [v, .int .i64 bad], 93)
/-- What a reader's method leaves: the reader's block alone is written. -/
def InPost (w : World) (b : Nat) (v : Value) (s : PS) (r : Value) (s' : PS) (e : Ending) (w' : World) : Prop :=
  e = .returned r ∧ ∃ v', St w [b] w' [inBlk b v' s'.bad] ∧ SubV v s.rest v' s'.rest

theorem in_start {w : World} {b : Nat} {v : Value} {bad : Int} (hb : Holds w (inBlk b v bad)) : St w [b] w [inBlk b v bad] :=
  St.start w [inBlk b v bad] (fun x hx => by simp at hx; subst hx; exact hb) (by simp [keys])

theorem cell_in {w : World} {b : Nat} {v : Value} {bad : Int} (hb : Holds w (inBlk b v bad)) : w.cell? ⟨b, 0, none⟩ = some v ∧ w.cell? ⟨b, 1, none⟩ = some (.int .i64 bad) ∧ w.frozen? ⟨b, 0, none⟩ = false ∧ w.frozen? ⟨b, 1, none⟩ = false := by
  have h := hb _ _ _ rfl
  exact ⟨by rw [cell_row h]; rfl, by rw [cell_row h]; rfl, frozen_of_row w b 0 _ _ h, frozen_of_row w b 1 _ _ h⟩

set_option maxHeartbeats 400000 in
theorem bad_ok (b : Nat) (v : Value) (bad : Int) (w : World) (hb : Holds w (inBlk b v bad)) :
    Calls Try.prog 13 #[.pointer (some ⟨b, 0, none⟩)] w fun e w' => e = .returned (.int .i64 bad) ∧ w = w' := by
  obtain ⟨_, hc, _⟩ := cell_in hb
  go_enter Try.func13, Try.ntmps13
  go_wp2
  go_ret
  exact ⟨rfl, rfl⟩

set_option maxHeartbeats 400000 in
theorem left_ok (b : Nat) (v : Value) (l : List UInt8) (bad : Int) (w : World) (hb : Holds w (inBlk b v bad)) (hv : InV w b v l) (hl : l.length ≤ maxLen) :
    Calls Try.prog 49 #[.pointer (some ⟨b, 0, none⟩)] w fun e w' => e = .returned (.int .i64 l.length) ∧ w = w' := by
  unfold maxLen at hl
  obtain ⟨hc, _, _⟩ := cell_in hb
  have hvv : ∃ a c, v = .slice a l.length c := by
    rcases hv with ⟨rfl, rfl⟩ | ⟨g, off, cap, cs, T, fr, rfl, _⟩
    · exact ⟨_, _, rfl⟩
    · exact ⟨_, _, rfl⟩
  obtain ⟨a, c, rfl⟩ := hvv
  clear hv
  go_enter Try.func49, Try.ntmps49
  go_wp2
  go_ret
  exact ⟨rfl, rfl⟩

/-- Fail, where it notes something. -/
theorem fail_yes (b : Nat) (v : Value) (er : Int) (he : (er == 0) = false) (w : World) (hb : Holds w (inBlk b v 0)) :
    Calls Try.prog 24 #[.pointer (some ⟨b, 0, none⟩), .int .i64 er] w fun e w' => e = .returned (.tuple #[]) ∧ St w [b] w' [inBlk b (.slice none 0 0) er] := by
  have hS := in_start hb
  clear hb
  have he' : (er != 0) = true := by simpa [bne] using he
  go_enter Try.func24, Try.ntmps24
  go_wp2_with (first | ((with_reducible show wpList _ _ _ (Oper.mk _ (Op.load _ _) _ _ _ _ :: _) _ _); refine wpl rfl ?_; refine (owp_load1 hS 0 rfl rfl rfl rfl ?_)) | ((with_reducible show wpList _ _ _ (Oper.mk _ (Op.store _ _ _) _ _ _ _ :: _) _ _); refine wpl rfl ?_; refine (owp_store1 hS 0 rfl rfl rfl rfl rfl (by simp) rfl ?_); clear hS; intro _ hS; try simp [Act.eval] at hS))
  go_end0
  exact ⟨rfl, hS⟩

theorem fail_no (b : Nat) (v : Value) (bad er : Int) (h : bad ≠ 0 ∨ er = 0) (w : World) (hb : Holds w (inBlk b v bad)) :
    Calls Try.prog 24 #[.pointer (some ⟨b, 0, none⟩), .int .i64 er] w fun e w' => e = .returned (.tuple #[]) ∧ St w [b] w' [inBlk b v bad] := by
  have hS := in_start hb
  clear hb
  by_cases hbad : bad = 0
  · have her : er = 0 := by rcases h with h | h; exact (h hbad).elim; exact h
    subst hbad her
    go_enter Try.func24, Try.ntmps24
    go_wp2_with (first | ((with_reducible show wpList _ _ _ (Oper.mk _ (Op.load _ _) _ _ _ _ :: _) _ _); refine wpl rfl ?_; refine (owp_load1 hS 0 rfl rfl rfl rfl ?_)) | ((with_reducible show wpList _ _ _ (Oper.mk _ (Op.store _ _ _) _ _ _ _ :: _) _ _); refine wpl rfl ?_; refine (owp_store1 hS 0 rfl rfl rfl rfl rfl (by simp) rfl ?_); clear hS; intro _ hS; try simp [Act.eval] at hS))
    go_end0
    exact ⟨rfl, hS⟩
  · have hbb : (bad == 0) = false := by simpa using hbad
    clear h hbad
    go_enter Try.func24, Try.ntmps24
    go_wp2_with (first | ((with_reducible show wpList _ _ _ (Oper.mk _ (Op.load _ _) _ _ _ _ :: _) _ _); refine wpl rfl ?_; refine (owp_load1 hS 0 rfl rfl rfl rfl ?_)) | ((with_reducible show wpList _ _ _ (Oper.mk _ (Op.store _ _ _) _ _ _ _ :: _) _ _); refine wpl rfl ?_; refine (owp_store1 hS 0 rfl rfl rfl rfl rfl (by simp) rfl ?_); clear hS; intro _ hS; try simp [Act.eval] at hS))
    go_end0
    exact ⟨rfl, hS⟩

theorem fail_ok (b : Nat) (v : Value) (s : PS) (er : Int) (w : World) (hb : Holds w (inBlk b v s.bad)) :
    Calls Try.prog 24 #[.pointer (some ⟨b, 0, none⟩), .int .i64 er] w (InPost w b v s (.tuple #[]) (s.fail er)) := by
  obtain ⟨l, bad⟩ := s
  by_cases h : bad = 0 ∧ er ≠ 0
  · obtain ⟨rfl, he⟩ := h
    refine (fail_yes b v er (by simpa using he) w hb).mono ?_
    rintro e w' ⟨rfl, hs⟩
    refine ⟨rfl, .slice none 0 0, ?_, ?_⟩
    · simpa [PS.fail, he] using hs
    · simpa [PS.fail, he] using SubV.none v l
  · refine (fail_no b v bad er (by by_cases hb : bad = 0; exact .inr (by simpa [hb] using h); exact .inl hb) w hb).mono ?_
    rintro e w' ⟨rfl, hs⟩
    refine ⟨rfl, v, ?_, ?_⟩
    · simpa [PS.fail, h] using hs
    · simpa [PS.fail, h] using SubV.refl v l

end Go.Proofs.Ytjgphbdffhmmgaa
