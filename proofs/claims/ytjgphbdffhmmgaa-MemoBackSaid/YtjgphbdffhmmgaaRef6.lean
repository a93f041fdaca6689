/-
  A trail, as it is taken off bytes by the document.
-/
import Derived.Test.YtjgphbdffhmmgaaRef5
namespace Go.Proofs.Ytjgphbdffhmmgaa
set_option linter.unusedSimpArgs false
set_option linter.unusedVariables false
open Go Go.RowKit
set_option maxRecDepth 100000
set_option maxHeartbeats 2000000

theorem cut_le (n : Nat) (s : PS) : (s.cut n).1.length ≤ n := by
  unfold PS.cut
  split
  · simp
  · split
    · simp
    · simp; omega
theorem Hop.set_channel (x c a i : Nat) : (Hop.cells ⟨c, a, i⟩).set 0 (.int .u32 x) = Hop.cells ⟨x, a, i⟩ := rfl
theorem Hop.set_amount (x c a i : Nat) : (Hop.cells ⟨c, a, i⟩).set 1 (.int .u64 x) = Hop.cells ⟨c, x, i⟩ := rfl
theorem Hop.ltk (h : Hop) {k : Nat} (hk : k < 3) : k < h.cells.length := hk

def RTrailPost (w : World) (b : Nat) (u : Value) (l : List UInt8) (s : PS) (T : TypeId) (e : Ending) (w' : World) : Prop :=
  ∃ r at' x, e = .returned r ∧ St w [b] w' [rfBlk b u at' (takeTrail s).2.bad, x] ∧ RAt l at' (takeTrail s).2 ∧ RowV T 3 r (takeTrail s).1.length (hopCells (takeTrail s).1) x

theorem rtakeTrail_ok (b : Nat) (u : Value) (l : List UInt8) (at' : Nat) (s : PS) (w : World) (hb : Holds w (rfBlk b u at' s.bad)) (hu : URd w b u l) (hat : RAt l at' s) :
    Calls Try.prog 10 #[.pointer (some ⟨b, 0, none⟩)] w (RTrailPost w b u l s 97) := by
  have hS := rf_start hb
  go_enter Try.func10, Try.ntmps10
  go_wp2_with fail
  refine (rmany_ok 7 (by omega) b u l _ _ _ (hS.get 0 rfl) (hu.st hS) hat).mono ?_; rintro e w1 ⟨rfl, at2, hc, hat2⟩; replace hS := hS.call1 0 rfl hc; try simp only [List.cons_append, List.nil_append, List.append_nil, List.set_cons_zero, List.set_cons_succ] at hS; clear hc hat; have hat := hat2; clear hat2
  have hn := many_le 7 s
  have ht : takeTrail s = (if (times takeHop (s.many 7).1 (s.many 7).2).2.bad ≠ 0 then [] else (times takeHop (s.many 7).1 (s.many 7).2).1, (times takeHop (s.many 7).1 (s.many 7).2).2) := rfl
  have Ht := Lib.hid ht
  clear ht
  generalize (s.many 7).1 = n at *
  generalize (s.many 7).2 = s1 at *
  go_wp2_with fail
  go_loopw [3, 5] (fun t i wr => ∃ (k : Nat) (at3 : Nat) (x : Ent), k ≤ n ∧ i = .int .i64 k ∧ RowV 97 3 t k (hopCells (times takeHop k s1).1) x ∧
      St w [b] wr [rfBlk b u at3 (times takeHop k s1).2.bad, x] ∧ RAt l at3 (times takeHop k s1).2) (fun _ i _ => n - (intOf i).toNat)
  case atStart => exact ⟨0, at2, none, Nat.zero_le _, rfl, by rw [times_zero]; exact RowV.nil _ _, by rw [times_zero]; exact hS.addNone, by rw [times_zero]; exact hat⟩
  case round =>
    clear hS hat
    obtain ⟨k, at3, x, hk, rfl, hrow, hS, hat⟩ := hrel
    by_cases hlt : k < n
    · have hstep : times takeHop (k + 1) s1 = ((times takeHop k s1).1 ++ [(takeHop (times takeHop k s1).2).1], (takeHop (times takeHop k s1).2).2) := times_succ _ _ _
      have Hstep := Lib.hid hstep
      clear hstep
      generalize (times takeHop k s1).1 = tl at *
      generalize (times takeHop k s1).2 = s2 at *
      obtain ⟨a0, c0, rfl⟩ := hrow.isSl
      have Hrow := Lib.hid hrow
      clear hrow
      go_wp2_with (first | ((with_reducible show wpList _ _ _ (Oper.mk (some 6) (Op.alloc _) _ _ _ _ :: _) _ _); refine wpl rfl ?_; refine (owp_allocAt hS 6 rfl rfl ?_); clear hS; intro gh _ hS; simp only [List.cons_append, List.nil_append] at hS))
      refine (rnum_ok 4 (by omega) (by omega) b u l _ _ _ (hS.get 0 rfl) (hu.st hS) hat).mono ?_; rintro e w1 ⟨rfl, at2, hc, hat2⟩; replace hS := hS.call1 0 rfl hc; try simp only [List.cons_append, List.nil_append, List.append_nil, List.set_cons_zero, List.set_cons_succ] at hS; clear hc hat; have hat := hat2; clear hat2
      have h4 := num4_lt s2
      go_wp2_with (first | ((with_reducible show wpList _ _ _ (Oper.mk _ (Op.store _ _ _) _ _ _ _ :: _) _ _); refine wpl rfl ?_; refine owp_store1 hS 2 rfl rfl rfl rfl rfl (Hop.ltk _ (by omega)) (Hop.set_channel _ _ _ _) ?_; clear hS; intro _ hS; try simp only [List.cons_append, List.nil_append, List.append_nil, List.set_cons_zero, List.set_cons_succ] at hS))
      refine (rnum_ok 8 (by omega) (by omega) b u l _ _ _ (hS.get 0 rfl) (hu.st hS) hat).mono ?_; rintro e w1 ⟨rfl, at2, hc, hat2⟩; replace hS := hS.call1 0 rfl hc; try simp only [List.cons_append, List.nil_append, List.append_nil, List.set_cons_zero, List.set_cons_succ] at hS; clear hc hat; have hat := hat2; clear hat2
      go_wp2_with (first | ((with_reducible show wpList _ _ _ (Oper.mk _ (Op.store _ _ _) _ _ _ _ :: _) _ _); refine wpl rfl ?_; refine owp_store1 hS 2 rfl rfl rfl rfl rfl (Hop.ltk _ (by omega)) (Hop.set_amount _ _ _ _) ?_; clear hS; intro _ hS; try simp only [List.cons_append, List.nil_append, List.append_nil, List.set_cons_zero, List.set_cons_succ] at hS))
      refine (rnum_ok 8 (by omega) (by omega) b u l _ _ _ (hS.get 0 rfl) (hu.st hS) hat).mono ?_; rintro e w1 ⟨rfl, at2, hc, hat2⟩; replace hS := hS.call1 0 rfl hc; try simp only [List.cons_append, List.nil_append, List.append_nil, List.set_cons_zero, List.set_cons_succ] at hS; clear hc hat; have hat := hat2; clear hat2
      have h63 : k + 1 ≤ maxLen := by unfold maxLen; omega
      have hby : (k + 1) * 24 ≤ 140737488355328 := by omega
      have hrow := Hrow.out
      clear Hrow
      go_wp2_with (first | ((with_reducible show wpList _ _ _ (Oper.mk _ (Op.store _ _ _) _ _ _ _ :: _) _ _); refine wpl rfl ?_; refine owp_store1 hS 2 rfl rfl rfl rfl rfl (Hop.lt _) (Hop.set_id _ _ _ _) ?_; clear hS; intro _ hS; try simp only [List.cons_append, List.nil_append, List.append_nil, List.set_cons_zero, List.set_cons_succ] at hS) | ((with_reducible show wpList _ _ _ (Oper.mk _ (Op.load _ _) _ _ _ _ :: _) _ _); refine wpl rfl ?_; refine (owp_loadW hS 2 rfl rfl rfl (rfl) ?_)) | ((with_reducible show wpList _ _ _ (Oper.mk _ (Op.buildSlice _ _ _) _ _ _ _ :: _) _ _); refine wpl rfl ?_; refine owp_bslice1 (vs := Hop.cells _) hS rfl rfl (by rfl) (by decide) ?_; clear hS; intro gs _ hS; try simp only [List.cons_append, List.nil_append, List.append_nil, List.set_cons_zero, List.set_cons_succ] at hS) | ((with_reducible show wpList _ _ _ (Oper.mk _ (Op.call (Call.mk (Callee.builtin Builtin.append) _ _)) _ _ _ _ :: _) _ _); refine wpl rfl ?_; refine owp_append hS 1 rfl rfl rfl hrow rfl ((RowV.lit 97 3 _ 1 _ rfl (by decide)).read (hS.get 3 rfl)) (Hop.one _) h63 hby ?_; clear hS hrow; intro v3 x3 _ hrow hS _; obtain ⟨a3, c3, rfl⟩ := hrow.isSl; try simp only [List.cons_append, List.nil_append, List.append_nil, List.set_cons_zero, List.set_cons_succ] at hS))
      go_roundw
      case rel =>
        refine ⟨k + 1, at2, x3, by omega, by go_num, ?_, ?_, ?_⟩
        · rw [Hstep.out, hopCells_snoc]; exact hrow
        · rw [Hstep.out]; exact hS.pick [0, 1] rfl (by decide)
        · rw [Hstep.out]; exact hat
      case measure => simp [intOf]; omega
    · have hkn : k = n := by omega
      subst hkn
      obtain ⟨a0, c0, rfl⟩ := hrow.isSl
      have Hlen := Lib.hid (times_len takeHop k s1)
      generalize (times takeHop k s1).1 = tl at *
      generalize (times takeHop k s1).2 = s2 at *
      have Hrow := Lib.hid hrow
      clear hrow
      by_cases hbad : s2.bad = 0
      · have hb1 : (s2.bad != 0) = false := by simpa using hbad
        have Hbad := Lib.hid hbad
        clear hbad
        go_wp2_with (first | ((with_reducible show wpList _ _ _ (Oper.mk _ (Op.load _ _) _ _ _ _ :: _) _ _); refine wpl rfl ?_; refine (owp_load1 hS 0 rfl rfl rfl rfl ?_)))
        go_ret
        refine ⟨_, at3, x, rfl, ?_, ?_, ?_⟩
        · rw [Ht.out]; exact hS
        · rw [Ht.out]; exact hat
        · rw [Ht.out, if_neg (by simpa using Hbad.out), Hlen.out]
          exact Hrow.out
      · have hb1 : (s2.bad != 0) = true := by simpa using hbad
        have Hbad := Lib.hid hbad
        clear hbad
        go_wp2_with (first | ((with_reducible show wpList _ _ _ (Oper.mk _ (Op.load _ _) _ _ _ _ :: _) _ _); refine wpl rfl ?_; refine (owp_load1 hS 0 rfl rfl rfl rfl ?_)))
        go_ret
        refine ⟨_, at3, none, rfl, ?_, ?_, ?_⟩
        · rw [Ht.out]; exact (hS.pick [0] rfl (by decide)).addNone
        · rw [Ht.out]; exact hat
        · rw [Ht.out, if_pos (by simpa using Hbad.out)]
          exact RowV.nil _ _

end Go.Proofs.Ytjgphbdffhmmgaa
