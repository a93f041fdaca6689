/-
  A trail, as it is taken off bytes by the program.
-/
import Derived.Test.YtjgphbdffhmmgaaIn7
namespace Go.Proofs.Ytjgphbdffhmmgaa
set_option linter.unusedSimpArgs false
set_option linter.unusedVariables false
open Go Go.RowKit
set_option maxRecDepth 100000
set_option maxHeartbeats 2000000

theorem build_hop (c a : Nat) (w : World) : (Instr.build 96 #[(0, .int .u32 c), (1, .int .u64 a)]).run Try.prog w = .ok (.agg (Hop.cells ⟨c, a, 0⟩).toArray) w := by kernel_rfl
theorem Hop.one (c : Hop) : ∀ v, v ∈ c.cells → v.oneCell' = true := by
  intro v hv
  simp only [Hop.cells, List.mem_cons, List.not_mem_nil, or_false] at hv
  rcases hv with rfl | rfl | rfl <;> rfl
theorem hopCells_snoc (l : List Hop) (h : Hop) : hopCells (l ++ [h]) = hopCells l ++ h.cells := by simp [hopCells]
theorem many_le (n : Nat) (s : PS) : (s.many n).1 ≤ n := by
  unfold PS.many
  split
  · omega
  · rename_i h; omega
theorem times_len {α : Type} (f : PS → α × PS) (n : Nat) (s : PS) : (times f n s).1.length = n := by
  induction n with
  | zero => rw [times_zero]; rfl
  | succ n ih => simp [times_succ, ih]

theorem Hop.lt (h : Hop) : 2 < h.cells.length := by simp [Hop.cells]
theorem Hop.set_id (c a i x : Nat) : (Hop.cells ⟨c, a, i⟩).set 2 (.int .u64 x) = Hop.cells ⟨c, a, x⟩ := rfl

def TrailPost (w : World) (b : Nat) (v : Value) (s : PS) (T : TypeId) (e : Ending) (w' : World) : Prop :=
  ∃ r v' x, e = .returned r ∧ St w [b] w' [inBlk b v' (takeTrail s).2.bad, x] ∧ SubV v s.rest v' (takeTrail s).2.rest ∧ RowV T 3 r (takeTrail s).1.length (hopCells (takeTrail s).1) x

theorem takeTrail_ok (b : Nat) (v : Value) (s : PS) (w : World) (hb : Holds w (inBlk b v s.bad)) (hv : InV w b v s.rest) :
    Calls Try.prog 9 #[.pointer (some ⟨b, 0, none⟩)] w (TrailPost w b v s 96) := by
  have hS := in_start hb
  have hsub := SubV.refl v s.rest
  go_enter Try.func9, Try.ntmps9
  go_wp2_with fail
  refine (many_ok 7 (by omega) b _ _ _ (hS.get 0 rfl) ((hsub _ _ hv).st hS (.inl rfl))).mono ?_
  rintro e w1 ⟨rfl, v2, hc, hsub2⟩
  replace hS := hS.call1 0 rfl hc
  try simp only [List.cons_append, List.nil_append, List.append_nil, List.set_cons_zero, List.set_cons_succ] at hS
  replace hsub := hsub.trans hsub2
  clear hc hsub2
  have hn := many_le 7 s
  have ht : takeTrail s = (if (times takeHop (s.many 7).1 (s.many 7).2).2.bad ≠ 0 then [] else (times takeHop (s.many 7).1 (s.many 7).2).1, (times takeHop (s.many 7).1 (s.many 7).2).2) := rfl
  have Ht := Lib.hid ht
  clear ht
  generalize (s.many 7).1 = n at *
  generalize (s.many 7).2 = s1 at *
  go_wp2_with fail
  go_loopw [3, 7] (fun t i wr => ∃ (k : Nat) (v' : Value) (x : Ent), k ≤ n ∧ i = .int .i64 k ∧ RowV 96 3 t k (hopCells (times takeHop k s1).1) x ∧
      St w [b] wr [inBlk b v' (times takeHop k s1).2.bad, x] ∧ SubV v s.rest v' (times takeHop k s1).2.rest) (fun _ i _ => n - (intOf i).toNat)
  case atStart => exact ⟨0, v2, none, Nat.zero_le _, rfl, by rw [times_zero]; exact RowV.nil _ _, by rw [times_zero]; exact hS.addNone, by rw [times_zero]; exact hsub⟩
  case round =>
    clear hS hsub
    obtain ⟨k, v', x, hk, rfl, hrow, hS, hsub⟩ := hrel
    by_cases hlt : k < n
    · have hstep : times takeHop (k + 1) s1 = ((times takeHop k s1).1 ++ [(takeHop (times takeHop k s1).2).1], (takeHop (times takeHop k s1).2).2) := times_succ _ _ _
      have Hstep := Lib.hid hstep
      clear hstep
      generalize (times takeHop k s1).1 = l at *
      generalize (times takeHop k s1).2 = s2 at *
      obtain ⟨a0, c0, rfl⟩ := hrow.isSl
      go_wp2_with fail
      refine (four_ok b _ _ _ (hS.get 0 rfl) ((hsub _ _ hv).st hS (.inl rfl))).mono ?_; rintro e w1 ⟨rfl, v2, hc, hsub2⟩; replace hS := hS.call1 0 rfl hc; try simp only [List.cons_append, List.nil_append, List.append_nil, List.set_cons_zero, List.set_cons_succ] at hS; replace hsub := hsub.trans hsub2; clear hc hsub2
      go_wp2_with fail
      refine (eight_ok b _ _ _ (hS.get 0 rfl) ((hsub _ _ hv).st hS (.inl rfl))).mono ?_; rintro e w1 ⟨rfl, v2, hc, hsub2⟩; replace hS := hS.call1 0 rfl hc; try simp only [List.cons_append, List.nil_append, List.append_nil, List.set_cons_zero, List.set_cons_succ] at hS; replace hsub := hsub.trans hsub2; clear hc hsub2
      go_wp2_with (first | ((with_reducible show wpList _ _ _ (Oper.mk _ (Op.build _ _) _ _ _ _ :: _) _ _); refine wpl rfl ?_; refine owp_build rfl [(0, .int .u32 _), (1, .int .u64 _)] rfl (build_hop _ _ _) ?_) | ((with_reducible show wpList _ _ _ (Oper.mk (some 4) (Op.alloc _) _ _ _ _ :: _) _ _); refine wpl rfl ?_; refine (owp_allocAt hS 4 rfl rfl ?_); clear hS; intro gh _ hS; simp only [List.cons_append, List.nil_append] at hS) | ((with_reducible show wpList _ _ _ (Oper.mk _ (Op.store _ _ _) _ _ _ _ :: _) _ _); refine wpl rfl ?_; refine (owp_storeW hS 2 rfl rfl rfl rfl (rfl) (rfl) (Hop.one _) ?_); clear hS; intro _ hS; try simp only [List.cons_append, List.nil_append, List.append_nil, List.set_cons_zero, List.set_cons_succ] at hS))
      refine (eight_ok b _ _ _ (hS.get 0 rfl) ((hsub _ _ hv).st hS (.inl rfl))).mono ?_; rintro e w1 ⟨rfl, v2, hc, hsub2⟩; replace hS := hS.call1 0 rfl hc; try simp only [List.cons_append, List.nil_append, List.append_nil, List.set_cons_zero, List.set_cons_succ] at hS; replace hsub := hsub.trans hsub2; clear hc hsub2
      have h63 : k + 1 ≤ maxLen := by unfold maxLen; omega
      have hby : (k + 1) * 24 ≤ 140737488355328 := by omega
      go_wp2_with (first | ((with_reducible show wpList _ _ _ (Oper.mk _ (Op.store _ _ _) _ _ _ _ :: _) _ _); refine wpl rfl ?_; refine owp_store1 hS 2 rfl rfl rfl rfl rfl (Hop.lt _) (Hop.set_id _ _ _ _) ?_; clear hS; intro _ hS; try simp only [List.cons_append, List.nil_append, List.append_nil, List.set_cons_zero, List.set_cons_succ] at hS) | ((with_reducible show wpList _ _ _ (Oper.mk _ (Op.load _ _) _ _ _ _ :: _) _ _); refine wpl rfl ?_; refine (owp_loadW hS 2 rfl rfl rfl (rfl) ?_)) | ((with_reducible show wpList _ _ _ (Oper.mk _ (Op.buildSlice _ _ _) _ _ _ _ :: _) _ _); refine wpl rfl ?_; refine owp_bslice1 (vs := Hop.cells _) hS rfl rfl (by rfl) (by decide) ?_; clear hS; intro gs _ hS; try simp only [List.cons_append, List.nil_append, List.append_nil, List.set_cons_zero, List.set_cons_succ] at hS) | ((with_reducible show wpList _ _ _ (Oper.mk _ (Op.call (Call.mk (Callee.builtin Builtin.append) _ _)) _ _ _ _ :: _) _ _); refine wpl rfl ?_; refine owp_append hS 1 rfl rfl rfl hrow rfl ((RowV.lit 96 3 _ 1 _ rfl (by decide)).read (hS.get 3 rfl)) (Hop.one _) h63 hby ?_; clear hS hrow; intro v3 x3 _ hrow hS _; obtain ⟨a3, c3, rfl⟩ := hrow.isSl; try simp only [List.cons_append, List.nil_append, List.append_nil, List.set_cons_zero, List.set_cons_succ] at hS))
      go_roundw
      case rel =>
        refine ⟨k + 1, v2, x3, by omega, by go_num, ?_, ?_, ?_⟩
        · rw [Hstep.out, hopCells_snoc]; exact hrow
        · rw [Hstep.out]; exact hS.pick [0, 1] rfl (by decide)
        · rw [Hstep.out]; exact hsub
      case measure => simp [intOf]; omega
    · have hkn : k = n := by omega
      subst hkn
      obtain ⟨a0, c0, rfl⟩ := hrow.isSl
      have Hlen := Lib.hid (times_len takeHop k s1)
      generalize (times takeHop k s1).1 = l at *
      generalize (times takeHop k s1).2 = s2 at *
      go_wp2_with fail
      refine (bad_ok b _ _ _ (hS.get 0 rfl)).mono ?_
      rintro e w1 ⟨rfl, rfl⟩
      by_cases hbad : s2.bad = 0
      · have hb1 : (s2.bad != 0) = false := by simpa using hbad
        have Hbad := Lib.hid hbad
        clear hbad
        go_wp2_with fail
        go_ret
        refine ⟨_, v', x, rfl, ?_, ?_, ?_⟩
        · rw [Ht.out]; exact hS
        · rw [Ht.out]; exact hsub
        · rw [Ht.out, if_neg (by simpa using Hbad.out), Hlen.out]
          exact hrow
      · have hb1 : (s2.bad != 0) = true := by simpa using hbad
        have Hbad := Lib.hid hbad
        clear hbad
        go_wp2_with fail
        go_ret
        refine ⟨_, v', none, rfl, ?_, ?_, ?_⟩
        · rw [Ht.out]; exact (hS.pick [0] rfl (by decide)).addNone
        · rw [Ht.out]; exact hsub
        · rw [Ht.out, if_pos (by simpa using Hbad.out)]
          exact RowV.nil _ _

end Go.Proofs.Ytjgphbdffhmmgaa
