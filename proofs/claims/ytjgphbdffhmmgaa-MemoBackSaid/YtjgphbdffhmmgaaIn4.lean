/-
  What the program's reader of bytes does: one, four, eight bytes; how many; sums; the end.
-/
import Derived.Test.YtjgphbdffhmmgaaIn3
namespace Go.Proofs.Ytjgphbdffhmmgaa
set_option linter.unusedSimpArgs false
set_option linter.unusedVariables false
open Go Go.RowKit
set_option maxRecDepth 100000

theorem cut_len (n : Nat) (s : PS) : (s.cut n).1.length = n ∨ (s.cut n).1 = [] := by
  unfold PS.cut
  split
  · exact .inr rfl
  · split
    · exact .inr rfl
    · rename_i h1 h2; left; simp; omega
theorem num_lt (n : Nat) (s : PS) : (s.num n).1 < 256 ^ n := by
  unfold PS.num
  have := be_lt (s.cut n).1
  rcases cut_len n s with h | h
  · rwa [h] at this
  · rw [h]; simp [be]; exact Nat.pos_of_ne_zero (by simp)
theorem num1_lt (s : PS) : (s.num 1).1 ≤ 255 := by have := num_lt 1 s; omega
theorem num4_lt (s : PS) : (s.num 4).1 ≤ 4294967295 := by have := num_lt 4 s; omega
theorem num8_lt (s : PS) : (s.num 8).1 ≤ 18446744073709551615 := by
  have h := num_lt 8 s
  have e : (256 : Nat) ^ 8 = 18446744073709551616 := by decide
  rw [e] at h
  omega

theorem one_ok (b : Nat) (v : Value) (s : PS) (w : World) (hb : Holds w (inBlk b v s.bad)) (hv : InV w b v s.rest) :
    Calls Try.prog 19 #[.pointer (some ⟨b, 0, none⟩)] w (InPost w b v s (.int .u8 (s.num 1).1) (s.num 1).2) := by
  have hn := num1_lt s
  go_enter Try.func19, Try.ntmps19
  go_wp2_with fail
  refine (num_ok 1 (by omega) (by omega) b v s _ hb hv).mono ?_
  rintro e w1 ⟨rfl, h⟩
  go_wp2_with fail
  go_ret
  exact ⟨rfl, h⟩

theorem four_ok (b : Nat) (v : Value) (s : PS) (w : World) (hb : Holds w (inBlk b v s.bad)) (hv : InV w b v s.rest) :
    Calls Try.prog 20 #[.pointer (some ⟨b, 0, none⟩)] w (InPost w b v s (.int .u32 (s.num 4).1) (s.num 4).2) := by
  have hn := num4_lt s
  go_enter Try.func20, Try.ntmps20
  go_wp2_with fail
  refine (num_ok 4 (by omega) (by omega) b v s _ hb hv).mono ?_
  rintro e w1 ⟨rfl, h⟩
  go_wp2_with fail
  go_ret
  exact ⟨rfl, h⟩

theorem eight_ok (b : Nat) (v : Value) (s : PS) (w : World) (hb : Holds w (inBlk b v s.bad)) (hv : InV w b v s.rest) :
    Calls Try.prog 21 #[.pointer (some ⟨b, 0, none⟩)] w (InPost w b v s (.int .u64 (s.num 8).1) (s.num 8).2) := by
  go_enter Try.func21, Try.ntmps21
  go_wp2_with fail
  refine (num_ok 8 (by omega) (by omega) b v s _ hb hv).mono ?_
  rintro e w1 ⟨rfl, h⟩
  go_wp2_with fail
  go_ret
  exact ⟨rfl, h⟩

theorem many_ok (most : Nat) (hm : most ≤ 255) (b : Nat) (v : Value) (s : PS) (w : World) (hb : Holds w (inBlk b v s.bad)) (hv : InV w b v s.rest) :
    Calls Try.prog 32 #[.pointer (some ⟨b, 0, none⟩), .int .i64 most] w (InPost w b v s (.int .i64 (s.many most).1) (s.many most).2) := by
  have hn := num1_lt s
  by_cases hlt : most < (s.num 1).1
  · have hmany : s.many most = (0, (s.num 1).2.fail 8) := by simp [PS.many, hlt]
    rw [hmany]
    clear hmany
    go_enter Try.func32, Try.ntmps32
    go_wp2_with fail
    refine (one_ok b v s _ hb hv).mono ?_
    rintro e w1 ⟨rfl, v', hS, hsub⟩
    go_wp2_with fail
    refine (fail_ok b v' (s.num 1).2 8 _ (hS.get 0 rfl)).mono ?_
    rintro e w2 ⟨rfl, v'', hS2, hsub2⟩
    have hS3 := hS.call1 0 rfl hS2
    go_wp2_with fail
    go_ret
    exact ⟨rfl, v'', hS3, hsub.trans hsub2⟩
  · have hmany : s.many most = s.num 1 := by simp [PS.many, hlt]
    rw [hmany]
    clear hmany
    go_enter Try.func32, Try.ntmps32
    go_wp2_with fail
    refine (one_ok b v s _ hb hv).mono ?_
    rintro e w1 ⟨rfl, v', hS, hsub⟩
    go_wp2_with fail
    go_ret
    exact ⟨rfl, v', hS, hsub⟩

theorem end_ok (b : Nat) (v : Value) (s : PS) (hl : s.rest.length ≤ maxLen) (w : World) (hb : Holds w (inBlk b v s.bad)) (hv : InV w b v s.rest) :
    Calls Try.prog 26 #[.pointer (some ⟨b, 0, none⟩)] w (InPost w b v s (.int .i64 s.fin.bad) s.fin) := by
  have hl' := hl
  unfold maxLen at hl'
  by_cases hlt : 0 < s.rest.length
  · have hfin : s.fin = s.fail 10 := by simp [PS.fin, hlt]
    rw [hfin]
    clear hfin
    go_enter Try.func26, Try.ntmps26
    go_wp2_with fail
    refine (left_ok b v s.rest s.bad _ hb hv hl).mono ?_
    rintro e w1 ⟨rfl, rfl⟩
    go_wp2_with fail
    refine (fail_ok b v s 10 _ hb).mono ?_
    rintro e w1 ⟨rfl, v', hS, hsub⟩
    go_wp2_with fail
    refine (bad_ok b v' _ _ (hS.get 0 rfl)).mono ?_
    rintro e w1 ⟨rfl, rfl⟩
    go_wp2_with fail
    go_ret
    exact ⟨rfl, v', hS, hsub⟩
  · have hfin : s.fin = s := by simp [PS.fin, hlt]
    rw [hfin]
    clear hfin
    have h0 : s.rest.length ≤ 0 := by omega
    go_enter Try.func26, Try.ntmps26
    go_wp2_with fail
    refine (left_ok b v s.rest s.bad _ hb hv hl).mono ?_
    rintro e w1 ⟨rfl, rfl⟩
    go_wp2_with fail
    refine (bad_ok b v _ _ hb).mono ?_
    rintro e w1 ⟨rfl, rfl⟩
    go_wp2_with fail
    go_ret
    exact ⟨rfl, v, in_start hb, SubV.refl _ _⟩

end Go.Proofs.Ytjgphbdffhmmgaa
