/-
  A state, as it is taken off bytes by the document.
-/
import Derived.Test.YtldmkafobbemjaaC1
import Derived.Test.YtldmkafobbemjaaA8
namespace Go.Proofs.Ytldmkafobbemjaa
set_option linter.unusedSimpArgs false
set_option linter.unusedVariables false
open Go Go.RowKit
set_option maxRecDepth 100000
set_option maxHeartbeats 2000000

section
variable (ch r m0 m1 t0 t1 : Nat) (cs : List Cond) (cv : Value)
theorem State.set0 (x : Nat) : (State.cells ⟨ch, r, m0, m1, t0, t1, cs⟩ cv).set 0 (.int .u32 x) = State.cells ⟨x, r, m0, m1, t0, t1, cs⟩ cv := rfl
theorem State.set1 (x : Nat) : (State.cells ⟨ch, r, m0, m1, t0, t1, cs⟩ cv).set 1 (.int .u64 x) = State.cells ⟨ch, x, m0, m1, t0, t1, cs⟩ cv := rfl
theorem State.set2 (x : Nat) : (State.cells ⟨ch, r, m0, m1, t0, t1, cs⟩ cv).set 2 (.int .u64 x) = State.cells ⟨ch, r, x, m1, t0, t1, cs⟩ cv := rfl
theorem State.set3 (x : Nat) : (State.cells ⟨ch, r, m0, m1, t0, t1, cs⟩ cv).set 3 (.int .u64 x) = State.cells ⟨ch, r, m0, x, t0, t1, cs⟩ cv := rfl
theorem State.set4 (x : Nat) : (State.cells ⟨ch, r, m0, m1, t0, t1, cs⟩ cv).set 4 (.int .u64 x) = State.cells ⟨ch, r, m0, m1, x, t1, cs⟩ cv := rfl
theorem State.set5 (x : Nat) : (State.cells ⟨ch, r, m0, m1, t0, t1, cs⟩ cv).set 5 (.int .u64 x) = State.cells ⟨ch, r, m0, m1, t0, x, cs⟩ cv := rfl
theorem State.set6 (v : Value) (cs' : List Cond) : (State.cells ⟨ch, r, m0, m1, t0, t1, cs⟩ cv).set 6 v = State.cells ⟨ch, r, m0, m1, t0, t1, cs'⟩ v := rfl
end
theorem build_stateR0 (w : World) : (Instr.build 59 #[]).run Try.prog w = .ok (.agg (State.zero.cells (.slice none 0 0)).toArray) w := by kernel_rfl

def RStatePost (T : TypeId) (w : World) (b : Nat) (u : Value) (l : List UInt8) (s : PS) (e : Ending) (w' : World) : Prop :=
  ∃ cv at' x, e = .returned (.agg ((takeState s).1.cells cv).toArray) ∧ St w [b] w' [rfBlk b u at' (takeState s).2.bad, x] ∧ RAt l at' (takeState s).2 ∧
    RowV T 36 cv (takeState s).1.conds.length (condCells (takeState s).1.conds) x

theorem rtakeState_ok (b : Nat) (u : Value) (l : List UInt8) (at' : Nat) (s : PS) (w : World) (hb : Holds w (rfBlk b u at' s.bad)) (hu : URd w b u l) (hat : RAt l at' s) :
    Calls Try.prog 16 #[.pointer (some ⟨b, 0, none⟩)] w (RStatePost 91 w b u l s) := by
  have hS := rf_start hb
  have h4 := num4_lt s
  go_enter Try.func16, Try.ntmps16
  go_wp2_with (first | ((with_reducible show wpList _ _ _ (Oper.mk (some 2) (Op.alloc _) _ _ _ _ :: _) _ _); refine wpl rfl ?_; refine (owp_allocAt hS 2 rfl rfl ?_); clear hS; intro gr _ hS; simp only [List.cons_append, List.nil_append] at hS) | ((with_reducible show wpList _ _ _ (Oper.mk (some 3) (Op.alloc _) _ _ _ _ :: _) _ _); refine wpl rfl ?_; refine (owp_allocAt hS 3 rfl rfl ?_); clear hS; intro gs _ hS; simp only [List.cons_append, List.nil_append] at hS))
  refine (rnum_ok 4 (by omega) (by omega) b u l _ _ _ (hS.get 0 rfl) (hu.st hS) hat).mono ?_; rintro e w1 ⟨rfl, at2, hc, hat2⟩; replace hS := hS.call1 0 rfl hc; try simp only [List.cons_append, List.nil_append, List.append_nil, List.set_cons_zero, List.set_cons_succ] at hS; clear hc hat; have hat := hat2; clear hat2
  generalize h0 : s.num 4 = q0 at *
  have H0 := Lib.hid h0
  clear h0
  go_wp2_with (first | ((with_reducible show wpList _ _ _ (Oper.mk _ (Op.store _ _ _) _ _ _ _ :: _) _ _); refine wpl rfl ?_; refine owp_store1 hS 2 rfl rfl rfl rfl rfl (show 0 < 7 by omega) (State.set0 _ _ _ _ _ _ _ _ _) ?_; clear hS; intro _ hS; try simp only [List.cons_append, List.nil_append, List.append_nil, List.set_cons_zero, List.set_cons_succ] at hS))
  refine (rnum_ok 8 (by omega) (by omega) b u l _ _ _ (hS.get 0 rfl) (hu.st hS) hat).mono ?_; rintro e w1 ⟨rfl, at2, hc, hat2⟩; replace hS := hS.call1 0 rfl hc; try simp only [List.cons_append, List.nil_append, List.append_nil, List.set_cons_zero, List.set_cons_succ] at hS; clear hc hat; have hat := hat2; clear hat2
  generalize h1 : q0.2.num 8 = q1 at *
  have H1 := Lib.hid h1
  clear h1
  go_wp2_with (first | ((with_reducible show wpList _ _ _ (Oper.mk _ (Op.store _ _ _) _ _ _ _ :: _) _ _); refine wpl rfl ?_; refine owp_store1 hS 2 rfl rfl rfl rfl rfl (show 1 < 7 by omega) (State.set1 _ _ _ _ _ _ _ _ _) ?_; clear hS; intro _ hS; try simp only [List.cons_append, List.nil_append, List.append_nil, List.set_cons_zero, List.set_cons_succ] at hS))
  refine (rnum_ok 8 (by omega) (by omega) b u l _ _ _ (hS.get 0 rfl) (hu.st hS) hat).mono ?_; rintro e w1 ⟨rfl, at2, hc, hat2⟩; replace hS := hS.call1 0 rfl hc; try simp only [List.cons_append, List.nil_append, List.append_nil, List.set_cons_zero, List.set_cons_succ] at hS; clear hc hat; have hat := hat2; clear hat2
  generalize h2 : q1.2.num 8 = q2 at *
  have H2 := Lib.hid h2
  clear h2
  go_wp2_with (first | ((with_reducible show wpList _ _ _ (Oper.mk _ (Op.store _ _ _) _ _ _ _ :: _) _ _); refine wpl rfl ?_; refine owp_store1 hS 2 rfl rfl rfl rfl rfl (show 2 < 7 by omega) (State.set2 _ _ _ _ _ _ _ _ _) ?_; clear hS; intro _ hS; try simp only [List.cons_append, List.nil_append, List.append_nil, List.set_cons_zero, List.set_cons_succ] at hS))
  refine (rnum_ok 8 (by omega) (by omega) b u l _ _ _ (hS.get 0 rfl) (hu.st hS) hat).mono ?_; rintro e w1 ⟨rfl, at2, hc, hat2⟩; replace hS := hS.call1 0 rfl hc; try simp only [List.cons_append, List.nil_append, List.append_nil, List.set_cons_zero, List.set_cons_succ] at hS; clear hc hat; have hat := hat2; clear hat2
  generalize h3 : q2.2.num 8 = q3 at *
  have H3 := Lib.hid h3
  clear h3
  go_wp2_with (first | ((with_reducible show wpList _ _ _ (Oper.mk _ (Op.store _ _ _) _ _ _ _ :: _) _ _); refine wpl rfl ?_; refine owp_store1 hS 2 rfl rfl rfl rfl rfl (show 3 < 7 by omega) (State.set3 _ _ _ _ _ _ _ _ _) ?_; clear hS; intro _ hS; try simp only [List.cons_append, List.nil_append, List.append_nil, List.set_cons_zero, List.set_cons_succ] at hS))
  refine (rnum_ok 8 (by omega) (by omega) b u l _ _ _ (hS.get 0 rfl) (hu.st hS) hat).mono ?_; rintro e w1 ⟨rfl, at2, hc, hat2⟩; replace hS := hS.call1 0 rfl hc; try simp only [List.cons_append, List.nil_append, List.append_nil, List.set_cons_zero, List.set_cons_succ] at hS; clear hc hat; have hat := hat2; clear hat2
  generalize h5 : q3.2.num 8 = q4 at *
  have H5 := Lib.hid h5
  clear h5
  go_wp2_with (first | ((with_reducible show wpList _ _ _ (Oper.mk _ (Op.store _ _ _) _ _ _ _ :: _) _ _); refine wpl rfl ?_; refine owp_store1 hS 2 rfl rfl rfl rfl rfl (show 4 < 7 by omega) (State.set4 _ _ _ _ _ _ _ _ _) ?_; clear hS; intro _ hS; try simp only [List.cons_append, List.nil_append, List.append_nil, List.set_cons_zero, List.set_cons_succ] at hS))
  refine (rnum_ok 8 (by omega) (by omega) b u l _ _ _ (hS.get 0 rfl) (hu.st hS) hat).mono ?_; rintro e w1 ⟨rfl, at2, hc, hat2⟩; replace hS := hS.call1 0 rfl hc; try simp only [List.cons_append, List.nil_append, List.append_nil, List.set_cons_zero, List.set_cons_succ] at hS; clear hc hat; have hat := hat2; clear hat2
  generalize h6 : q4.2.num 8 = q5 at *
  have H6 := Lib.hid h6
  clear h6
  go_wp2_with (first | ((with_reducible show wpList _ _ _ (Oper.mk _ (Op.store _ _ _) _ _ _ _ :: _) _ _); refine wpl rfl ?_; refine owp_store1 hS 2 rfl rfl rfl rfl rfl (show 5 < 7 by omega) (State.set5 _ _ _ _ _ _ _ _ _) ?_; clear hS; intro _ hS; try simp only [List.cons_append, List.nil_append, List.append_nil, List.set_cons_zero, List.set_cons_succ] at hS))
  refine (rmany_ok 8 (by omega) b u l _ _ _ (hS.get 0 rfl) (hu.st hS) hat).mono ?_; rintro e w1 ⟨rfl, at2, hc, hat2⟩; replace hS := hS.call1 0 rfl hc; try simp only [List.cons_append, List.nil_append, List.append_nil, List.set_cons_zero, List.set_cons_succ] at hS; clear hc hat; have hat := hat2; clear hat2
  have hn := many_le 8 q5.2
  have Htk := Lib.hid (show takeState s = (if (times takeCond (q5.2.many 8).1 (q5.2.many 8).2).2.bad ≠ 0 then State.zero else ⟨q0.1, q1.1, q2.1, q3.1, q4.1, q5.1, (times takeCond (q5.2.many 8).1 (q5.2.many 8).2).1⟩, (times takeCond (q5.2.many 8).1 (q5.2.many 8).2).2) by
    simp only [takeState, H0.out, H1.out, H2.out, H3.out, H5.out, H6.out])
  generalize (q5.2.many 8).1 = n at *
  generalize (q5.2.many 8).2 = s3 at *
  clear H0 H1 H2 H3 H5 H6
  generalize q0.1 = ch at *
  generalize q1.1 = rd at *
  generalize q2.1 = m0 at *
  generalize q3.1 = m1 at *
  generalize q4.1 = t0 at *
  generalize q5.1 = t1 at *
  replace hS := hS.addNone
  try simp only [List.cons_append, List.nil_append, List.append_nil, List.set_cons_zero, List.set_cons_succ] at hS
  go_wp2_with fail
  go_loopw [5] (fun i wr => ∃ (k at3 : Nat) (cv : Value) (x : Ent), k ≤ n ∧ i = .int .i64 k ∧ RowV 91 36 cv k (condCells (times takeCond k s3).1) x ∧
      St w [b] wr [rfBlk b u at3 (times takeCond k s3).2.bad, some (gr, State.zero.cells (.slice none 0 0), 59), some (gs, State.cells ⟨ch, rd, m0, m1, t0, t1, []⟩ cv, 59), x] ∧ RAt l at3 (times takeCond k s3).2) (fun i _ => n - (intOf i).toNat)
  case atStart => exact ⟨0, at2, .slice none 0 0, none, Nat.zero_le _, rfl, by rw [times_zero]; exact RowV.nil _ _, by rw [times_zero]; exact hS, by rw [times_zero]; exact hat⟩
  case round =>
    clear hS hat
    obtain ⟨k, at3, cv, x, hk, rfl, hrow, hS, hat⟩ := hrel
    obtain ⟨a5, c5, rfl⟩ := hrow.isSl
    by_cases hlt : k < n
    · have Hstep := Lib.hid (times_succ takeCond k s3)
      generalize (times takeCond k s3).1 = tl at *
      generalize (times takeCond k s3).2 = s4 at *
      have Hcl := Lib.hid (Cond.len (takeCond s4).1 (takeCond_hash s4))
      have h63 : k + 1 ≤ maxLen := by unfold maxLen; omega
      have hby : (k + 1) * 64 ≤ 140737488355328 := by omega
      have hi : (k : Int) < n := by omega
      go_wp2_with fail
      replace hS := hS.drew
      refine wp_region_held_drew (S := (fun _ => True)) (by kernel_rfl) trivial (fun hHeld => ?_)
      refine htake (i := 0) (v := (.pointer (some ⟨gs, 6, none⟩))) rfl (by kernel_rfl) (by kernel_rfl) (by kernel_rfl) (fun _ _ _ h => h) (Or.inl ⟨by rfl, by (intro w hSw; (try dsimp only at hSw); (try obtain hSw := hSw); go_simp; try with_reducible rfl)⟩) (by assumption) ?_; simp only [Act.put, List.setIfInBounds_toArray, List.set_cons_succ, List.set_cons_zero]
      refine htake (i := 2) (v := (.pointer (some ⟨b, 0, none⟩))) rfl (by kernel_rfl) (by kernel_rfl) (by kernel_rfl) (fun _ _ _ h => h) (Or.inl ⟨by rfl, by (intro w hSw; (try dsimp only at hSw); (try obtain hSw := hSw); go_simp; try with_reducible rfl)⟩) (by assumption) ?_; simp only [Act.put, List.setIfInBounds_toArray, List.set_cons_succ, List.set_cons_zero]
      refine wpAnyH_ready (rs := [1, 3]) (by kernel_rfl) (by simp) ?_
      refine hcons rfl rfl (fun K hK => ?_) ?_
      · clear hHeld
        refine owp_load1 hS 2 rfl rfl rfl (show (State.cells ⟨ch, rd, m0, m1, t0, t1, []⟩ (.slice a5 k c5))[6]? = some (.slice a5 k c5) from rfl) ?_
        refine hK.out _ _ trivial (fun hHeld => ?_)
        clear hK K
        simp only [Act.put, List.setIfInBounds_toArray, List.set_cons_succ, List.set_cons_zero]
        refine wpAnyH_ready (rs := [3]) (by kernel_rfl) (by simp) ?_
        refine hcons rfl rfl (fun K hK => ?_) ?_
        · clear hHeld
          have hcall := rtakeCond_ok b u l _ s4 _ (hS.get 0 rfl) (hu.st hS) hat
          refine owp_call rfl (by kernel_rfl) (args := #[.pointer (some ⟨b, 0, none⟩)]) rfl hcall ?_
          clear hcall
          rintro e w5 ⟨rfl, at4, hc, hat2⟩
          replace hS := hS.call1 0 rfl hc
          try simp only [List.cons_append, List.nil_append, List.append_nil, List.set_cons_zero, List.set_cons_succ] at hS
          clear hc hat
          have hat := hat2
          clear hat2
          refine ⟨_, rfl, ?_⟩
          refine hK.out _ _ trivial (fun hHeld => ?_)
          clear hK K
          simp only [Act.put, List.setIfInBounds_toArray, List.set_cons_succ, List.set_cons_zero]
          refine wpAnyH_ready (rs := [4]) (by kernel_rfl) (by simp) ?_
          refine hcons rfl rfl (fun K hK => ?_) ?_
          · clear hHeld
            refine owp_bslice1 (vs := (takeCond s4).1.cells) hS rfl rfl Hcl.out (by decide) ?_
            clear hS; intro ge _ hS; try simp only [List.cons_append, List.nil_append, List.append_nil, List.set_cons_zero, List.set_cons_succ] at hS
            refine hK.out _ _ trivial (fun hHeld => ?_)
            clear hK K
            simp only [Act.put, List.setIfInBounds_toArray, List.set_cons_succ, List.set_cons_zero]
            refine wpAnyH_ready (rs := [5]) (by kernel_rfl) (by simp) ?_
            refine hcons rfl rfl (fun K hK => ?_) ?_
            · clear hHeld
              refine owp_append hS 3 rfl rfl rfl hrow rfl ((RowV.lit 91 36 ge 1 (takeCond s4).1.cells (by rw [Hcl.out]) (by decide)).read (hS.get 4 rfl)) (Cond.one _) h63 hby ?_
              clear hS hrow
              intro v7 x7 _ hrow hS _
              obtain ⟨a7, c7, rfl⟩ := hrow.isSl
              try simp only [List.cons_append, List.nil_append, List.append_nil, List.set_cons_zero, List.set_cons_succ] at hS
              refine hK.out _ _ trivial (fun hHeld => ?_)
              clear hK K
              simp only [Act.put, List.setIfInBounds_toArray, List.set_cons_succ, List.set_cons_zero]
              refine htake (i := 6) (v := (.pointer (some ⟨gs, 6, none⟩))) rfl (by kernel_rfl) (by kernel_rfl) (by kernel_rfl) (fun _ _ _ h => h) (Or.inl ⟨by rfl, by (intro w hSw; (try dsimp only at hSw); (try obtain hSw := hSw); go_simp; try with_reducible rfl)⟩) (by assumption) ?_; simp only [Act.put, List.setIfInBounds_toArray, List.set_cons_succ, List.set_cons_zero]
              refine wpAnyH_ready (rs := [7]) (by kernel_rfl) (by simp) ?_
              refine hcons rfl rfl (fun K hK => ?_) ?_
              · clear hHeld
                refine owp_store1 hS 2 rfl rfl rfl rfl rfl (show 6 < 7 by omega) (State.set6 _ _ _ _ _ _ _ _ _ []) ?_
                clear hS; intro _ hS; try simp only [List.cons_append, List.nil_append, List.append_nil, List.set_cons_zero, List.set_cons_succ] at hS
                refine hK.out _ _ trivial (fun hHeld => ?_)
                clear hK K
                simp only [Act.put, List.setIfInBounds_toArray, List.set_cons_succ, List.set_cons_zero]
                refine wpAnyH_done (by kernel_rfl) ?_ _
                clear hHeld
                go_wp2_with fail
                go_roundw
                case rel =>
                  refine ⟨k + 1, at4, .slice a7 (k + 1) c7, x7, by omega, by go_num, ?_, ?_, ?_⟩
                  · rw [Hstep.out, condCells_snoc]; exact hrow
                  · rw [Hstep.out]; exact hS.pick [0, 1, 2, 3] rfl (by decide)
                  · rw [Hstep.out]; exact hat
                case measure => simp [intOf]; omega
              exact AllReadyH.nil
            exact AllReadyH.nil
          exact AllReadyH.nil
        exact AllReadyH.nil
      refine hcons rfl rfl (fun K hK => ?_) ?_
      · clear hHeld
        have hcall := rtakeCond_ok b u l _ s4 _ (hS.get 0 rfl) (hu.st hS) hat
        refine owp_call rfl (by kernel_rfl) (args := #[.pointer (some ⟨b, 0, none⟩)]) rfl hcall ?_
        clear hcall
        rintro e w5 ⟨rfl, at4, hc, hat2⟩
        replace hS := hS.call1 0 rfl hc
        try simp only [List.cons_append, List.nil_append, List.append_nil, List.set_cons_zero, List.set_cons_succ] at hS
        clear hc hat
        have hat := hat2
        clear hat2
        refine ⟨_, rfl, ?_⟩
        refine hK.out _ _ trivial (fun hHeld => ?_)
        clear hK K
        simp only [Act.put, List.setIfInBounds_toArray, List.set_cons_succ, List.set_cons_zero]
        refine wpAnyH_ready (rs := [1, 4]) (by kernel_rfl) (by simp) ?_
        refine hcons rfl rfl (fun K hK => ?_) ?_
        · clear hHeld
          refine owp_load1 hS 2 rfl rfl rfl (show (State.cells ⟨ch, rd, m0, m1, t0, t1, []⟩ (.slice a5 k c5))[6]? = some (.slice a5 k c5) from rfl) ?_
          refine hK.out _ _ trivial (fun hHeld => ?_)
          clear hK K
          simp only [Act.put, List.setIfInBounds_toArray, List.set_cons_succ, List.set_cons_zero]
          refine wpAnyH_ready (rs := [4]) (by kernel_rfl) (by simp) ?_
          refine hcons rfl rfl (fun K hK => ?_) ?_
          · clear hHeld
            refine owp_bslice1 (vs := (takeCond s4).1.cells) hS rfl rfl Hcl.out (by decide) ?_
            clear hS; intro ge _ hS; try simp only [List.cons_append, List.nil_append, List.append_nil, List.set_cons_zero, List.set_cons_succ] at hS
            refine hK.out _ _ trivial (fun hHeld => ?_)
            clear hK K
            simp only [Act.put, List.setIfInBounds_toArray, List.set_cons_succ, List.set_cons_zero]
            refine wpAnyH_ready (rs := [5]) (by kernel_rfl) (by simp) ?_
            refine hcons rfl rfl (fun K hK => ?_) ?_
            · clear hHeld
              refine owp_append hS 3 rfl rfl rfl hrow rfl ((RowV.lit 91 36 ge 1 (takeCond s4).1.cells (by rw [Hcl.out]) (by decide)).read (hS.get 4 rfl)) (Cond.one _) h63 hby ?_
              clear hS hrow
              intro v7 x7 _ hrow hS _
              obtain ⟨a7, c7, rfl⟩ := hrow.isSl
              try simp only [List.cons_append, List.nil_append, List.append_nil, List.set_cons_zero, List.set_cons_succ] at hS
              refine hK.out _ _ trivial (fun hHeld => ?_)
              clear hK K
              simp only [Act.put, List.setIfInBounds_toArray, List.set_cons_succ, List.set_cons_zero]
              refine htake (i := 6) (v := (.pointer (some ⟨gs, 6, none⟩))) rfl (by kernel_rfl) (by kernel_rfl) (by kernel_rfl) (fun _ _ _ h => h) (Or.inl ⟨by rfl, by (intro w hSw; (try dsimp only at hSw); (try obtain hSw := hSw); go_simp; try with_reducible rfl)⟩) (by assumption) ?_; simp only [Act.put, List.setIfInBounds_toArray, List.set_cons_succ, List.set_cons_zero]
              refine wpAnyH_ready (rs := [7]) (by kernel_rfl) (by simp) ?_
              refine hcons rfl rfl (fun K hK => ?_) ?_
              · clear hHeld
                refine owp_store1 hS 2 rfl rfl rfl rfl rfl (show 6 < 7 by omega) (State.set6 _ _ _ _ _ _ _ _ _ []) ?_
                clear hS; intro _ hS; try simp only [List.cons_append, List.nil_append, List.append_nil, List.set_cons_zero, List.set_cons_succ] at hS
                refine hK.out _ _ trivial (fun hHeld => ?_)
                clear hK K
                simp only [Act.put, List.setIfInBounds_toArray, List.set_cons_succ, List.set_cons_zero]
                refine wpAnyH_done (by kernel_rfl) ?_ _
                clear hHeld
                go_wp2_with fail
                go_roundw
                case rel =>
                  refine ⟨k + 1, at4, .slice a7 (k + 1) c7, x7, by omega, by go_num, ?_, ?_, ?_⟩
                  · rw [Hstep.out, condCells_snoc]; exact hrow
                  · rw [Hstep.out]; exact hS.pick [0, 1, 2, 3] rfl (by decide)
                  · rw [Hstep.out]; exact hat
                case measure => simp [intOf]; omega
              exact AllReadyH.nil
            exact AllReadyH.nil
          exact AllReadyH.nil
        refine hcons rfl rfl (fun K hK => ?_) ?_
        · clear hHeld
          refine owp_bslice1 (vs := (takeCond s4).1.cells) hS rfl rfl Hcl.out (by decide) ?_
          clear hS; intro ge _ hS; try simp only [List.cons_append, List.nil_append, List.append_nil, List.set_cons_zero, List.set_cons_succ] at hS
          refine hK.out _ _ trivial (fun hHeld => ?_)
          clear hK K
          simp only [Act.put, List.setIfInBounds_toArray, List.set_cons_succ, List.set_cons_zero]
          refine wpAnyH_ready (rs := [1]) (by kernel_rfl) (by simp) ?_
          refine hcons rfl rfl (fun K hK => ?_) ?_
          · clear hHeld
            refine owp_load1 hS 2 rfl rfl rfl (show (State.cells ⟨ch, rd, m0, m1, t0, t1, []⟩ (.slice a5 k c5))[6]? = some (.slice a5 k c5) from rfl) ?_
            refine hK.out _ _ trivial (fun hHeld => ?_)
            clear hK K
            simp only [Act.put, List.setIfInBounds_toArray, List.set_cons_succ, List.set_cons_zero]
            refine wpAnyH_ready (rs := [5]) (by kernel_rfl) (by simp) ?_
            refine hcons rfl rfl (fun K hK => ?_) ?_
            · clear hHeld
              refine owp_append hS 3 rfl rfl rfl hrow rfl ((RowV.lit 91 36 ge 1 (takeCond s4).1.cells (by rw [Hcl.out]) (by decide)).read (hS.get 4 rfl)) (Cond.one _) h63 hby ?_
              clear hS hrow
              intro v7 x7 _ hrow hS _
              obtain ⟨a7, c7, rfl⟩ := hrow.isSl
              try simp only [List.cons_append, List.nil_append, List.append_nil, List.set_cons_zero, List.set_cons_succ] at hS
              refine hK.out _ _ trivial (fun hHeld => ?_)
              clear hK K
              simp only [Act.put, List.setIfInBounds_toArray, List.set_cons_succ, List.set_cons_zero]
              refine htake (i := 6) (v := (.pointer (some ⟨gs, 6, none⟩))) rfl (by kernel_rfl) (by kernel_rfl) (by kernel_rfl) (fun _ _ _ h => h) (Or.inl ⟨by rfl, by (intro w hSw; (try dsimp only at hSw); (try obtain hSw := hSw); go_simp; try with_reducible rfl)⟩) (by assumption) ?_; simp only [Act.put, List.setIfInBounds_toArray, List.set_cons_succ, List.set_cons_zero]
              refine wpAnyH_ready (rs := [7]) (by kernel_rfl) (by simp) ?_
              refine hcons rfl rfl (fun K hK => ?_) ?_
              · clear hHeld
                refine owp_store1 hS 2 rfl rfl rfl rfl rfl (show 6 < 7 by omega) (State.set6 _ _ _ _ _ _ _ _ _ []) ?_
                clear hS; intro _ hS; try simp only [List.cons_append, List.nil_append, List.append_nil, List.set_cons_zero, List.set_cons_succ] at hS
                refine hK.out _ _ trivial (fun hHeld => ?_)
                clear hK K
                simp only [Act.put, List.setIfInBounds_toArray, List.set_cons_succ, List.set_cons_zero]
                refine wpAnyH_done (by kernel_rfl) ?_ _
                clear hHeld
                go_wp2_with fail
                go_roundw
                case rel =>
                  refine ⟨k + 1, at4, .slice a7 (k + 1) c7, x7, by omega, by go_num, ?_, ?_, ?_⟩
                  · rw [Hstep.out, condCells_snoc]; exact hrow
                  · rw [Hstep.out]; exact hS.pick [0, 1, 2, 3] rfl (by decide)
                  · rw [Hstep.out]; exact hat
                case measure => simp [intOf]; omega
              exact AllReadyH.nil
            exact AllReadyH.nil
          exact AllReadyH.nil
        exact AllReadyH.nil
      exact AllReadyH.nil
    · have hkn : k = n := by omega
      subst hkn
      have Hlen := Lib.hid (times_len takeCond k s3)
      generalize (times takeCond k s3).1 = tl at *
      generalize (times takeCond k s3).2 = s4 at *
      by_cases hbad : s4.bad = 0
      · have hb1 : (s4.bad != 0) = false := by simpa using hbad
        have Hbad := Lib.hid hbad
        clear hbad
        go_wp2_with (first | ((with_reducible show wpList _ _ _ (Oper.mk _ (Op.load _ _) _ _ _ _ :: _) _ _); refine wpl rfl ?_; refine (owp_load1 hS 0 rfl rfl rfl rfl ?_)) | ((with_reducible show wpList _ _ _ (Oper.mk _ (Op.load _ _) _ _ _ _ :: _) _ _); refine wpl rfl ?_; refine (owp_loadW hS 2 rfl rfl rfl (by rfl) ?_)) | ((with_reducible show wpList _ _ _ (Oper.mk _ (Op.store _ _ _) _ _ _ _ :: _) _ _); refine wpl rfl ?_; refine (owp_storeW hS 1 rfl rfl rfl rfl (by rfl) (by rfl) (State.one _ _ rfl) ?_); clear hS; intro _ hS; try simp only [List.cons_append, List.nil_append, List.append_nil, List.set_cons_zero, List.set_cons_succ] at hS))
        (try simp only [Exit.inBlock, Exit.then]); refine bodyPost_ret (res_cell rfl rfl hS 1 rfl (by rfl)) rfl ?_
        refine ⟨.slice a5 k c5, at3, x, ?_, ?_, ?_, ?_⟩
        · rw [Htk.out, if_neg (by simpa using Hbad.out)]; rfl
        · rw [Htk.out]; exact hS.pick [0, 3] rfl (by decide)
        · rw [Htk.out]; exact hat
        · rw [Htk.out, if_neg (by simpa using Hbad.out), Hlen.out]; exact hrow
      · have hb1 : (s4.bad != 0) = true := by simpa using hbad
        have Hbad := Lib.hid hbad
        clear hbad
        go_wp2_with (first | ((with_reducible show wpList _ _ _ (Oper.mk _ (Op.load _ _) _ _ _ _ :: _) _ _); refine wpl rfl ?_; refine (owp_load1 hS 0 rfl rfl rfl rfl ?_)) | ((with_reducible show wpList _ _ _ (Oper.mk _ (Op.build _ _) _ _ _ _ :: _) _ _); refine wpl rfl ?_; refine owp_build rfl [] rfl (build_stateR0 _) ?_) | ((with_reducible show wpList _ _ _ (Oper.mk _ (Op.store _ _ _) _ _ _ _ :: _) _ _); refine wpl rfl ?_; refine (owp_storeW hS 1 rfl rfl rfl rfl (by rfl) (by rfl) (State.one _ _ rfl) ?_); clear hS; intro _ hS; try simp only [List.cons_append, List.nil_append, List.append_nil, List.set_cons_zero, List.set_cons_succ] at hS))
        (try simp only [Exit.inBlock, Exit.then]); refine bodyPost_ret (res_cell rfl rfl hS 1 rfl (by rfl)) rfl ?_
        refine ⟨.slice none 0 0, at3, none, ?_, ?_, ?_, ?_⟩
        · rw [Htk.out, if_pos (by simpa using Hbad.out)]
        · rw [Htk.out]; exact (hS.pick [0] rfl (by decide)).addNone
        · rw [Htk.out]; exact hat
        · rw [Htk.out, if_pos (by simpa using Hbad.out)]; exact RowV.nil _ _

end Go.Proofs.Ytldmkafobbemjaa
