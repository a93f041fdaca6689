/-
  What the document's reader of bytes does: what is left, the end, how many, a sum.
-/
import Derived.Test.YtjgphbdffhmmgaaRef2
namespace Go.Proofs.Ytjgphbdffhmmgaa
set_option linter.unusedSimpArgs false
set_option linter.unusedVariables false
open Go Go.RowKit
set_option maxRecDepth 100000
set_option maxHeartbeats 2000000

def LeftPost (w : World) (b : Nat) (u : Value) (l : List UInt8) (at' : Nat) (s : PS) (e : Ending) (w' : World) : Prop :=
  e = .returned (.int .i64 ((if s.bad = 0 then s.rest.length else 0 : Nat) : Int)) ∧ St w [b] w' [rfBlk b u at' s.bad]
theorem rleft_ok (b : Nat) (u : Value) (l : List UInt8) (at' : Nat) (s : PS) (w : World) (hb : Holds w (rfBlk b u at' s.bad)) (hu : URd w b u l) (hat : RAt l at' s) :
    Calls Try.prog 54 #[.pointer (some ⟨b, 0, none⟩)] w (LeftPost w b u l at' s) := by
  obtain ⟨rest, bad⟩ := s
  have hS := rf_start hb
  obtain ⟨hle, hrest⟩ := hat
  have hl := hu.le
  by_cases hbad : bad = 0
  · subst hbad
    obtain rfl : rest = l.drop at' := hrest rfl
    clear hrest
    obtain ⟨a0, c0, rfl⟩ := hu.r.isSl
    have Hr := Lib.hid (show ((if (PS.mk (l.drop at') 0).bad = 0 then (PS.mk (l.drop at') 0).rest.length else 0 : Nat) : Int) = (l.length : Int) - at' by simp; omega)
    have hw : IntKind.i64.wrap ((l.length : Int) - at') = (l.length : Int) - at' := IntWalk.i64_in _ (by omega)
    go_enter Try.func54, Try.ntmps54
    go_upto_region 3 with (first | ((with_reducible show wpList _ _ _ (Oper.mk _ (Op.load _ _) _ _ _ _ :: _) _ _); refine wpl rfl ?_; refine (owp_load1 hS 0 rfl rfl rfl rfl ?_)))
    obtain ⟨h0, h1, h2⟩ := rf_cells hS
    go_quiet (fail)
    replace hS := hS.drewN nq
    clear h0 h1 h2
    go_wp2_with fail
    go_ret
    exact ⟨congrArg (fun z => Ending.returned (Value.int .i64 z)) Hr.out.symm, hS⟩
  · have hb1 : (bad != 0) = true := by simpa using hbad
    have Hr := Lib.hid (show ((if (PS.mk rest bad).bad = 0 then (PS.mk rest bad).rest.length else 0 : Nat) : Int) = 0 by simp [hbad])
    clear hbad
    go_enter Try.func54, Try.ntmps54
    go_wp2_with (first | ((with_reducible show wpList _ _ _ (Oper.mk _ (Op.load _ _) _ _ _ _ :: _) _ _); refine wpl rfl ?_; refine (owp_load1 hS 0 rfl rfl rfl rfl ?_)))
    go_ret
    exact ⟨congrArg (fun z => Ending.returned (Value.int .i64 z)) Hr.out.symm, hS⟩

theorem rend_ok (b : Nat) (u : Value) (l : List UInt8) (at' : Nat) (s : PS) (w : World) (hb : Holds w (rfBlk b u at' s.bad)) (hu : URd w b u l) (hat : RAt l at' s) :
    Calls Try.prog 31 #[.pointer (some ⟨b, 0, none⟩)] w (RPost w b u l (.int .i64 s.fin.bad) s.fin) := by
  have Hl := Lib.hid (rleft_ok b u l at' s w hb hu hat)
  by_cases hlt : s.bad = 0 ∧ 0 < s.rest.length
  · have hfin : s.fin = ⟨[], 10⟩ := by simp [PS.fin, PS.fail, hlt.1, hlt.2]
    have hn : (if s.bad = 0 then s.rest.length else 0 : Nat) = s.rest.length := by rw [if_pos hlt.1]
    have hpos : (0 : Int) < (s.rest.length : Int) := by omega
    have Hn := Lib.hid hn
    rw [hfin]
    clear hfin hn hlt
    go_enter Try.func31, Try.ntmps31
    go_wp2_with fail
    refine Hl.out.mono ?_
    rintro e w1 ⟨rfl, hS⟩
    rw [Hn.out]
    go_wp2_with (first | ((with_reducible show wpList _ _ _ (Oper.mk _ (Op.load _ _) _ _ _ _ :: _) _ _); refine wpl rfl ?_; refine (owp_load1 hS 0 rfl rfl rfl rfl ?_)) | ((with_reducible show wpList _ _ _ (Oper.mk _ (Op.store _ _ _) _ _ _ _ :: _) _ _); refine wpl rfl ?_; refine (owp_store1 hS 0 rfl rfl rfl rfl rfl (by simp) rfl ?_); clear hS; intro _ hS; try simp [Act.eval] at hS))
    go_ret
    exact ⟨rfl, at', hS, hat.1, fun h => by cases h⟩
  · have hfin : s.fin = s := by
      unfold PS.fin
      split
      · rename_i h
        unfold PS.fail
        rw [if_neg]
        intro hh
        exact hlt ⟨hh.1, h⟩
      · rfl
    have hn : (if s.bad = 0 then s.rest.length else 0 : Nat) = 0 := by
      by_cases h0 : s.bad = 0
      · rw [if_pos h0]
        have : ¬ 0 < s.rest.length := fun h => hlt ⟨h0, h⟩
        omega
      · rw [if_neg h0]
    have Hn := Lib.hid hn
    rw [hfin]
    clear hfin hn hlt
    go_enter Try.func31, Try.ntmps31
    go_wp2_with fail
    refine Hl.out.mono ?_
    rintro e w1 ⟨rfl, hS⟩
    rw [Hn.out]
    go_wp2_with (first | ((with_reducible show wpList _ _ _ (Oper.mk _ (Op.load _ _) _ _ _ _ :: _) _ _); refine wpl rfl ?_; refine (owp_load1 hS 0 rfl rfl rfl rfl ?_)) | ((with_reducible show wpList _ _ _ (Oper.mk _ (Op.store _ _ _) _ _ _ _ :: _) _ _); refine wpl rfl ?_; refine (owp_store1 hS 0 rfl rfl rfl rfl rfl (by simp) rfl ?_); clear hS; intro _ hS; try simp [Act.eval] at hS))
    go_ret
    exact ⟨rfl, at', hS, hat⟩

theorem rmany_ok (most : Nat) (hm : most ≤ 100) (b : Nat) (u : Value) (l : List UInt8) (at' : Nat) (s : PS) (w : World) (hb : Holds w (rfBlk b u at' s.bad)) (hu : URd w b u l) (hat : RAt l at' s) :
    Calls Try.prog 33 #[.pointer (some ⟨b, 0, none⟩), .int .i64 most] w (RPost w b u l (.int .i64 (s.many most).1) (s.many most).2) := by
  have h1 := num1_lt s
  have Hn := Lib.hid (rnum_ok 1 (by omega) (by omega) b u l at' s w hb hu hat)
  by_cases hlt : most < (s.num 1).1
  · have hmany : s.many most = (0, (s.num 1).2.fail 8) := by simp [PS.many, hlt]
    rw [hmany]
    clear hmany
    by_cases hbad : (s.num 1).2.bad = 0
    · have hf : (s.num 1).2.fail 8 = ⟨[], 8⟩ := by simp [PS.fail, hbad]
      have hb1 : ((s.num 1).2.bad == 0) = true := by simpa using hbad
      rw [hf]
      clear hf hbad
      have hlt' : (most : Int) < ((s.num 1).1 : Int) := by omega
      go_enter Try.func33, Try.ntmps33
      go_wp2_with fail
      refine Hn.out.mono ?_
      rintro e w1 ⟨rfl, at2, hS, hat2⟩
      go_wp2_with (first | ((with_reducible show wpList _ _ _ (Oper.mk _ (Op.load _ _) _ _ _ _ :: _) _ _); refine wpl rfl ?_; refine (owp_load1 hS 0 rfl rfl rfl rfl ?_)) | ((with_reducible show wpList _ _ _ (Oper.mk _ (Op.store _ _ _) _ _ _ _ :: _) _ _); refine wpl rfl ?_; refine (owp_store1 hS 0 rfl rfl rfl rfl rfl (by simp) rfl ?_); clear hS; intro _ hS; try simp [Act.eval] at hS))
      go_ret
      exact ⟨rfl, at2, hS, hat2.1, fun h => by cases h⟩
    · have hf : (s.num 1).2.fail 8 = (s.num 1).2 := by simp [PS.fail, hbad]
      have hb1 : ((s.num 1).2.bad == 0) = false := by simpa using hbad
      rw [hf]
      clear hf hbad
      have hlt' : (most : Int) < ((s.num 1).1 : Int) := by omega
      go_enter Try.func33, Try.ntmps33
      go_wp2_with fail
      refine Hn.out.mono ?_
      rintro e w1 ⟨rfl, at2, hS, hat2⟩
      go_wp2_with (first | ((with_reducible show wpList _ _ _ (Oper.mk _ (Op.load _ _) _ _ _ _ :: _) _ _); refine wpl rfl ?_; refine (owp_load1 hS 0 rfl rfl rfl rfl ?_)) | ((with_reducible show wpList _ _ _ (Oper.mk _ (Op.store _ _ _) _ _ _ _ :: _) _ _); refine wpl rfl ?_; refine (owp_store1 hS 0 rfl rfl rfl rfl rfl (by simp) rfl ?_); clear hS; intro _ hS; try simp [Act.eval] at hS))
      go_ret
      exact ⟨rfl, at2, hS, hat2⟩
  · have hmany : s.many most = s.num 1 := by simp [PS.many, hlt]
    have hle : ((s.num 1).1 : Int) ≤ (most : Int) := by omega
    rw [hmany]
    clear hmany hlt
    go_enter Try.func33, Try.ntmps33
    go_wp2_with fail
    refine Hn.out.mono ?_
    rintro e w1 ⟨rfl, at2, hS, hat2⟩
    go_wp2_with (first | ((with_reducible show wpList _ _ _ (Oper.mk _ (Op.load _ _) _ _ _ _ :: _) _ _); refine wpl rfl ?_; refine (owp_load1 hS 0 rfl rfl rfl rfl ?_)) | ((with_reducible show wpList _ _ _ (Oper.mk _ (Op.store _ _ _) _ _ _ _ :: _) _ _); refine wpl rfl ?_; refine (owp_store1 hS 0 rfl rfl rfl rfl rfl (by simp) rfl ?_); clear hS; intro _ hS; try simp [Act.eval] at hS))
    go_ret
    exact ⟨rfl, at2, hS, hat2⟩

end Go.Proofs.Ytjgphbdffhmmgaa
