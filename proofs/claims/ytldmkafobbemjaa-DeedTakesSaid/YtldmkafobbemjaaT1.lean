/-
  A deed, as it is read off bytes by the document.
  The law DeedTakes answers true, as a call: for any bytes that are only read.
-/
import Derived.Test.YtldmkafobbemjaaC2
import Derived.Test.YtldmkafobbemjaaA8
import Derived.Test.YtldmkafobbemjaaC6
import Derived.Test.YtldmkafobbemjaaC1
namespace Go.Proofs.Ytldmkafobbemjaa
set_option linter.unusedSimpArgs false
set_option linter.unusedVariables false
open Go Go.RowKit
set_option maxRecDepth 100000
set_option maxHeartbeats 2000000

theorem rreadDeed_ok (u : Value) (l : List UInt8) (w : World) (hr : RowR w 1 u l.length (bs l)) (hl : l.length ≤ 1000000) :
    Calls Try.prog 25 #[u] w (ReadDPost 22 91 (readDeed l).1 (readDeed l).2 w) := by
  have hS := St.nil w
  obtain ⟨s0, hs0⟩ : ∃ s0, s0 = PS.mk l 0 := ⟨_, rfl⟩
  have h00 : s0.bad = 0 := by rw [hs0]
  have h01 : s0.rest = l := by rw [hs0]
  have H0 := Lib.hid (And.intro hs0 (And.intro h00 h01))
  clear hs0 h00 h01
  obtain ⟨a0, c0, rfl⟩ := hr.isSl
  go_enter Try.func25, Try.ntmps25
  go_wp2_with (first
    | ((with_reducible show wpList _ _ _ (Oper.mk (some 2) (Op.alloc _) _ _ _ _ :: _) _ _); refine wpl rfl ?_; refine (owp_allocAt hS 2 rfl rfl ?_); clear hS; intro gr _ hS; simp only [List.cons_append, List.nil_append] at hS)
    | ((with_reducible show wpList _ _ _ (Oper.mk _ (Op.build _ _) _ _ _ _ :: _) _ _); refine wpl rfl ?_; refine owp_build rfl [(0, .slice _ _ _)] rfl (build_in _ _ _ _) ?_)
    | ((with_reducible show wpList _ _ _ (Oper.mk _ (Op.box _ _) _ _ _ _ :: _) _ _); refine wpl rfl ?_; refine owp_box hS rfl (vs := [_, _, _]) rfl ?_; clear hS; intro b w2 hS; try simp only [List.cons_append, List.nil_append, List.append_nil, List.set_cons_zero, List.set_cons_succ] at hS)
    | ((with_reducible show wpList _ _ _ (Oper.mk (some 5) (Op.alloc _) _ _ _ _ :: _) _ _); refine wpl rfl ?_; refine (owp_allocAt hS 5 rfl rfl ?_); clear hS; intro gm _ hS; simp only [List.cons_append, List.nil_append] at hS))
  replace hS := hS.pick (L' := [rfBlk b (.slice a0 l.length c0) 0 0, some (gr, Deed.zero.cells (.slice none 0 0) (.slice none 0 0) (.slice none 0 0), 69), some (gm, Deed.zero.cells (.slice none 0 0) (.slice none 0 0) (.slice none 0 0), 69)]) [1, 0, 2] rfl (by decide)
  rw [← H0.out.2.1] at hS
  have hat : RAt l 0 s0 := ⟨Nat.zero_le _, fun _ => by rw [H0.out.2.2]; rfl⟩
  refine (rtakeState_ok b _ l _ s0 _ (hS.get 0 rfl) (URd.own hr hl hS) hat).mono ?_
  rintro e w2 ⟨cv, at2, x, rfl, hc, hat2, hrow⟩
  replace hS := hS.call1 0 rfl hc
  try simp only [List.cons_append, List.nil_append, List.append_nil, List.set_cons_zero, List.set_cons_succ] at hS
  clear hc hat
  have hat := hat2
  clear hat2
  have Hread := Lib.hid (show readDeed l = readFin (readTail ((takeState s0).1, (takeState s0).2)) by rw [H0.out.1]; rfl)
  generalize (takeState s0).1 = st at *
  generalize (takeState s0).2 = s1 at *
  obtain ⟨a1, c1, rfl⟩ := hrow.isSl
  have Hx := Lib.hid hrow
  clear hrow
  by_cases hr0 : 0 < st.round
  · have hr1 : (0 : Int) < st.round := by omega
    rw [readTail_pos st s1 hr0] at Hread
    clear hr0
    go_wp2_with (first
      | ((with_reducible show wpList _ _ _ (Oper.mk _ (Op.store _ _ _) _ _ _ _ :: _) _ _); refine wpl rfl ?_; refine owp_store hS 2 rfl rfl rfl rfl (State.len _ _) (by rw [Deed.Fit.zero.len]; omega) (State.one _ _ rfl) (Deed.set_s _ _ _ _ _) ?_; clear hS; intro _ hS; try simp only [List.cons_append, List.nil_append, List.append_nil, List.set_cons_zero, List.set_cons_succ] at hS)
      | ((with_reducible show wpList _ _ _ (Oper.mk _ (Op.load _ _) _ _ _ _ :: _) _ _); refine wpl rfl ?_; refine owp_load1 hS 2 rfl rfl rfl (Deed.g1 _ _ _) ?_))
    replace hS := hS.pick (L' := [rfBlk b (.slice a0 l.length c0) at2 s1.bad, some (gr, Deed.zero.cells (.slice none 0 0) (.slice none 0 0) (.slice none 0 0), 69), some (gm, Deed.cells ⟨st, Sig.zero, Sig.zero⟩ (.slice a1 st.conds.length c1) (.slice none 0 0) (.slice none 0 0), 69), x]) [0, 1, 2, 3] rfl (by decide)
    refine (rtakeSig_ok b _ l _ _ _ (hS.get 0 rfl) (URd.own hr hl hS) hat).mono ?_
    rintro e w3 ⟨wv, at3, y, rfl, hc, hat2, hrow⟩
    replace hS := hS.call1 0 rfl hc
    try simp only [List.cons_append, List.nil_append, List.append_nil, List.set_cons_zero, List.set_cons_succ] at hS
    clear hc hat
    have hat := hat2
    clear hat2
    have Hla := Lib.hid (show (takeSig s1).1.l.cells.length = 1024 from LSig.len _ (takeSig_lens s1).1 (takeSig_lens s1).2)
    generalize (takeSig s1).1 = sa at *
    generalize (takeSig s1).2 = s2 at *
    obtain ⟨a2, c2, rfl⟩ := hrow.isSl
    have Hy := Lib.hid hrow
    clear hrow
    have Hf1 := Lib.hid (show (Deed.mk st sa Sig.zero).Fit from ⟨Hla.out, lzero_len⟩)
    go_wp2_with (first
      | ((with_reducible show wpList _ _ _ (Oper.mk _ (Op.store _ _ _) _ _ _ _ :: _) _ _); refine wpl rfl ?_; refine owp_store hS 2 rfl rfl rfl rfl (Sig.len _ _ Hla.out) (by rw [Deed.Fit.zero'.len]; omega) (Sig.one _ _ rfl) (Deed.set_a Deed.Fit.zero' _ _ _ _ _) ?_; clear hS; intro _ hS; try simp only [List.cons_append, List.nil_append, List.append_nil, List.set_cons_zero, List.set_cons_succ] at hS))
    refine (rtakeSig_ok b _ l _ _ _ (hS.get 0 rfl) (URd.own hr hl hS) hat).mono ?_
    rintro e w4 ⟨wv, at4, z, rfl, hc, hat2, hrow⟩
    replace hS := hS.call1 0 rfl hc
    try simp only [List.cons_append, List.nil_append, List.append_nil, List.set_cons_zero, List.set_cons_succ] at hS
    clear hc hat
    have hat := hat2
    clear hat2
    have Hlb := Lib.hid (show (takeSig s2).1.l.cells.length = 1024 from LSig.len _ (takeSig_lens s2).1 (takeSig_lens s2).2)
    generalize (takeSig s2).1 = sb at *
    generalize (takeSig s2).2 = s3 at *
    obtain ⟨a3, c3, rfl⟩ := hrow.isSl
    have Hz := Lib.hid hrow
    clear hrow
    have Hfit2 := Lib.hid (show (Deed.mk st sa sb).Fit from ⟨Hla.out, Hlb.out⟩)
    go_wp2_with (first
      | ((with_reducible show wpList _ _ _ (Oper.mk _ (Op.store _ _ _) _ _ _ _ :: _) _ _); refine wpl rfl ?_; refine owp_store hS 2 rfl rfl rfl rfl (Sig.len _ _ Hlb.out) (by rw [Hf1.out.len]; omega) (Sig.one _ _ rfl) (Deed.set_b Hf1.out _ _ _ _ _) ?_; clear hS; intro _ hS; try simp only [List.cons_append, List.nil_append, List.append_nil, List.set_cons_zero, List.set_cons_succ] at hS))
    have Hone := Lib.hid (Deed.one ⟨st, sa, sb⟩ (.slice a1 st.conds.length c1) (.slice a2 sa.way.length c2) (.slice a3 sb.way.length c3) rfl rfl rfl)
    -- here: at the call of End; hS at [rf s3.bad, gr, gm, x, y, z]; Hread : readDeed l = readFin (_, s3); Hx Hy Hz the rows; Hfit2, Hone
    refine (rend_ok b _ l _ s3 _ (hS.get 0 rfl) (URd.own hr hl hS) hat).mono ?_
    rintro e w3 ⟨rfl, at5, hc, hat5⟩
    replace hS := hS.call1 0 rfl hc
    try simp only [List.cons_append, List.nil_append, List.append_nil, List.set_cons_zero, List.set_cons_succ] at hS
    clear hc hat5
    by_cases he : s3.fin.bad = 0
    · have Hread3 := Lib.hid (Hread.out.trans (readFin_ok _ _ he))
      clear Hread
      generalize s3.fin.bad = eb at *
      subst he
      go_wp2_with (first | ((with_reducible show wpList _ _ _ (Oper.mk _ (Op.load _ _) _ _ _ _ :: _) _ _); refine wpl rfl ?_; refine (owp_loadW hS 2 rfl rfl rfl (Hfit2.out.len _ _ _) ?_)) | ((with_reducible show wpList _ _ _ (Oper.mk _ (Op.store _ _ _) _ _ _ _ :: _) _ _); refine wpl rfl ?_; refine (owp_storeW hS 1 rfl rfl rfl rfl (Hfit2.out.len _ _ _) (Deed.Fit.zero.len _ _ _) (Hone.out) ?_); clear hS; intro _ hS; try simp only [List.cons_append, List.nil_append, List.append_nil, List.set_cons_zero, List.set_cons_succ] at hS))
      (try simp only [Exit.inBlock, Exit.then]); refine bodyPost_ret (res_cell2 rfl rfl hS 1 rfl (Hfit2.out.len _ _ _)) rfl ?_
      rw [Hread3.out]
      exact ⟨_, _, _, _, _, _, rfl, hS.pick [3, 4, 5] rfl (by decide), Hx.out, Hy.out, Hz.out⟩
    · have Hread3 := Lib.hid (Hread.out.trans (readFin_bad _ _ he))
      clear Hread
      generalize s3.fin.bad = eb at *
      have he1 : (eb != 0) = true := by simpa using he
      clear he
      go_wp2_with (first | ((with_reducible show wpList _ _ _ (Oper.mk _ (Op.build _ _) _ _ _ _ :: _) _ _); refine wpl rfl ?_; refine owp_build rfl [] rfl (build_deedR0 _) ?_) | ((with_reducible show wpList _ _ _ (Oper.mk _ (Op.store _ _ _) _ _ _ _ :: _) _ _); refine wpl rfl ?_; refine (owp_storeW hS 1 rfl rfl rfl rfl (Deed.Fit.zero.len _ _ _) (Deed.Fit.zero.len _ _ _) (Deed.one _ _ _ _ rfl rfl rfl) ?_); clear hS; intro _ hS; try simp only [List.cons_append, List.nil_append, List.append_nil, List.set_cons_zero, List.set_cons_succ] at hS))
      (try simp only [Exit.inBlock, Exit.then]); refine bodyPost_ret (res_cell2 rfl rfl hS 1 rfl (Deed.Fit.zero.len _ _ _)) rfl ?_
      rw [Hread3.out]
      exact ⟨_, _, _, none, none, none, rfl, (hS.pick [] rfl (by decide)).addNone.addNone.addNone, RowV.nil _ _, RowV.nil _ _, RowV.nil _ _⟩
  · rw [readTail_zero st s1 hr0] at Hread
    have hr1 : ¬ (0 : Int) < st.round := by omega
    clear hr0
    go_wp2_with (first
      | ((with_reducible show wpList _ _ _ (Oper.mk _ (Op.store _ _ _) _ _ _ _ :: _) _ _); refine wpl rfl ?_; refine owp_store hS 2 rfl rfl rfl rfl (State.len _ _) (by rw [Deed.Fit.zero.len]; omega) (State.one _ _ rfl) (Deed.set_s _ _ _ _ _) ?_; clear hS; intro _ hS; try simp only [List.cons_append, List.nil_append, List.append_nil, List.set_cons_zero, List.set_cons_succ] at hS)
      | ((with_reducible show wpList _ _ _ (Oper.mk _ (Op.load _ _) _ _ _ _ :: _) _ _); refine wpl rfl ?_; refine owp_load1 hS 2 rfl rfl rfl (Deed.g1 _ _ _) ?_))
    replace hS := hS.addNone.addNone.pick (L' := [rfBlk b (.slice a0 l.length c0) at2 s1.bad, some (gr, Deed.zero.cells (.slice none 0 0) (.slice none 0 0) (.slice none 0 0), 69), some (gm, Deed.cells ⟨st, Sig.zero, Sig.zero⟩ (.slice a1 st.conds.length c1) (.slice none 0 0) (.slice none 0 0), 69), x, none, none]) [0, 1, 2, 3, 4, 5] rfl (by decide)
    have Hfit2 := Lib.hid (show (Deed.mk st Sig.zero Sig.zero).Fit from Deed.Fit.zero')
    have Hone := Lib.hid (Deed.one ⟨st, Sig.zero, Sig.zero⟩ (.slice a1 st.conds.length c1) (.slice none 0 0) (.slice none 0 0) rfl rfl rfl)
    have Hy := Lib.hid (show RowV 22 32 (.slice none 0 0) Sig.zero.way.length (wayCells Sig.zero.way) none from RowV.nil _ _)
    have Hz := Hy
    generalize s1 = s3 at *
    -- here: at the call of End; hS at [rf s3.bad, gr, gm, x, y, z]; Hread : readDeed l = readFin (_, s3); Hx Hy Hz the rows; Hfit2, Hone
    refine (rend_ok b _ l _ s3 _ (hS.get 0 rfl) (URd.own hr hl hS) hat).mono ?_
    rintro e w3 ⟨rfl, at5, hc, hat5⟩
    replace hS := hS.call1 0 rfl hc
    try simp only [List.cons_append, List.nil_append, List.append_nil, List.set_cons_zero, List.set_cons_succ] at hS
    clear hc hat5
    by_cases he : s3.fin.bad = 0
    · have Hread3 := Lib.hid (Hread.out.trans (readFin_ok _ _ he))
      clear Hread
      generalize s3.fin.bad = eb at *
      subst he
      go_wp2_with (first | ((with_reducible show wpList _ _ _ (Oper.mk _ (Op.load _ _) _ _ _ _ :: _) _ _); refine wpl rfl ?_; refine (owp_loadW hS 2 rfl rfl rfl (Hfit2.out.len _ _ _) ?_)) | ((with_reducible show wpList _ _ _ (Oper.mk _ (Op.store _ _ _) _ _ _ _ :: _) _ _); refine wpl rfl ?_; refine (owp_storeW hS 1 rfl rfl rfl rfl (Hfit2.out.len _ _ _) (Deed.Fit.zero.len _ _ _) (Hone.out) ?_); clear hS; intro _ hS; try simp only [List.cons_append, List.nil_append, List.append_nil, List.set_cons_zero, List.set_cons_succ] at hS))
      (try simp only [Exit.inBlock, Exit.then]); refine bodyPost_ret (res_cell2 rfl rfl hS 1 rfl (Hfit2.out.len _ _ _)) rfl ?_
      rw [Hread3.out]
      exact ⟨_, _, _, _, _, _, rfl, hS.pick [3, 4, 5] rfl (by decide), Hx.out, Hy.out, Hz.out⟩
    · have Hread3 := Lib.hid (Hread.out.trans (readFin_bad _ _ he))
      clear Hread
      generalize s3.fin.bad = eb at *
      have he1 : (eb != 0) = true := by simpa using he
      clear he
      go_wp2_with (first | ((with_reducible show wpList _ _ _ (Oper.mk _ (Op.build _ _) _ _ _ _ :: _) _ _); refine wpl rfl ?_; refine owp_build rfl [] rfl (build_deedR0 _) ?_) | ((with_reducible show wpList _ _ _ (Oper.mk _ (Op.store _ _ _) _ _ _ _ :: _) _ _); refine wpl rfl ?_; refine (owp_storeW hS 1 rfl rfl rfl rfl (Deed.Fit.zero.len _ _ _) (Deed.Fit.zero.len _ _ _) (Deed.one _ _ _ _ rfl rfl rfl) ?_); clear hS; intro _ hS; try simp only [List.cons_append, List.nil_append, List.append_nil, List.set_cons_zero, List.set_cons_succ] at hS))
      (try simp only [Exit.inBlock, Exit.then]); refine bodyPost_ret (res_cell2 rfl rfl hS 1 rfl (Deed.Fit.zero.len _ _ _)) rfl ?_
      rw [Hread3.out]
      exact ⟨_, _, _, none, none, none, rfl, (hS.pick [] rfl (by decide)).addNone.addNone.addNone, RowV.nil _ _, RowV.nil _ _, RowV.nil _ _⟩

end Go.Proofs.Ytldmkafobbemjaa
namespace Go.Proofs.Ytldmkafobbemjaa
set_option linter.unusedSimpArgs false
set_option linter.unusedVariables false
open Go Go.RowKit
set_option maxRecDepth 100000
set_option maxHeartbeats 4000000

/-- Once something is wrong nothing is left. -/
def PS.Tidy (s : PS) : Prop := s.bad ≠ 0 → s.rest = []
theorem cut_tidy (n : Nat) (s : PS) (h : s.Tidy) : (s.cut n).2.Tidy := by
  unfold PS.cut
  split
  · exact h
  · rename_i hb
    split
    · intro _; rfl
    · intro hb2; exact (hb hb2).elim
theorem num_tidy (n : Nat) (s : PS) (h : s.Tidy) : (s.num n).2.Tidy := cut_tidy n s h
theorem sum_tidy (s : PS) (h : s.Tidy) : s.sum.2.Tidy := cut_tidy 32 s h
theorem fail_tidy (e : Int) (s : PS) (h : s.Tidy) : (s.fail e).Tidy := by
  unfold PS.fail
  split
  · intro _; rfl
  · exact h
theorem many_tidy (m : Nat) (s : PS) (h : s.Tidy) : (s.many m).2.Tidy := by
  unfold PS.many
  split
  · exact fail_tidy 8 _ (num_tidy 1 s h)
  · exact num_tidy 1 s h
theorem times_tidy {α : Type} (f : PS → α × PS) (hf : ∀ s, s.Tidy → (f s).2.Tidy) : ∀ (n : Nat) (s : PS), s.Tidy → (times f n s).2.Tidy
  | 0, s, h => by rw [times_zero]; exact h
  | n + 1, s, h => by rw [times_succ]; exact hf _ (times_tidy f hf n s h)
theorem takeCond_tidy (s : PS) (h : s.Tidy) : (takeCond s).2.Tidy := by
  have h1 := num_tidy 8 _ (sum_tidy _ (num_tidy 8 _ (num_tidy 1 _ (num_tidy 8 s h))))
  simp only [takeCond]
  split
  · exact fail_tidy 10 _ h1
  · exact h1
theorem takeState_tidy (s : PS) (h : s.Tidy) : (takeState s).2.Tidy := by
  simp only [takeState]
  exact times_tidy takeCond takeCond_tidy _ _ (many_tidy 8 _ (num_tidy 8 _ (num_tidy 8 _ (num_tidy 8 _ (num_tidy 8 _ (num_tidy 8 _ (num_tidy 4 s h)))))))
theorem takeOp_tidy (s : PS) (h : s.Tidy) : (takeOp s).2.Tidy := by
  simp only [takeOp]
  exact takeCond_tidy _ (num_tidy 8 _ (num_tidy 8 _ (num_tidy 1 s h)))
theorem PS.Tidy.left {s : PS} (h : s.Tidy) : (if s.bad = 0 then s.rest.length else 0) = s.rest.length := by
  split
  · rfl
  · rename_i hb; rw [h hb]; rfl


theorem deedTakes_ok (u : Value) (l : List UInt8) (w : World) (hu : RowR w 1 u l.length (bs l)) :
    Calls Try.prog 4 #[u] w (TruePost w) := by
  have hS := St.nil w
  obtain ⟨a0, c0, rfl⟩ := hu.isSl
  by_cases hbig : 20000 < l.length
  · go_enter Try.func4, Try.ntmps4
    go_wp2_with fail
    refine (awakeD_ok _).mono ?_
    rintro e w1 ⟨rfl, hc⟩
    replace hS := hS.call0 hc
    go_wp2_with fail
    go_ret
    exact ⟨rfl, hS⟩
  · have hl : l.length ≤ 1000000 := by omega
    have Hu := Lib.hid hu
    have hnb : (l.length : Int) ≤ 20000 := by omega
    obtain ⟨s0, hs0⟩ : ∃ s0, s0 = PS.mk l 0 := ⟨_, rfl⟩
    have H00 := Lib.hid (show s0.bad = 0 by rw [hs0])
    have H01 := Lib.hid (show s0.rest = l by rw [hs0])
    have Htd := Lib.hid (show s0.Tidy by rw [hs0]; intro h; exact (h rfl).elim)
    clear hu hs0 hbig
    go_enter Try.func4, Try.ntmps4
    go_wp2_with fail
    refine (of_ok2 _ l _ (Hu.out.st0 hS) hl).mono ?_
    rintro e w3 ⟨b, g, cap, sp, rfl, hc, hcap, hcm⟩
    replace hS := (hS.call0 hc).pick (L' := [inBlk b (.slice (some ⟨g, 0, none⟩) l.length cap) 0, backBlk g l sp]) [0, 1] rfl (by decide)
    clear hc
    rw [← H00.out] at hS
    go_wp2_with (first
      | ((with_reducible show wpList _ _ _ (Oper.mk _ (Op.build _ _) _ _ _ _ :: _) _ _); refine wpl rfl ?_; refine owp_build rfl [(0, .slice _ _ _)] rfl (build_in _ _ _ _) ?_)
      | ((with_reducible show wpList _ _ _ (Oper.mk _ (Op.box _ _) _ _ _ _ :: _) _ _); refine wpl rfl ?_; refine owp_box hS rfl (vs := [_, _, _]) rfl ?_; clear hS; intro br _ hS; try simp only [List.cons_append, List.nil_append, List.append_nil, List.set_cons_zero, List.set_cons_succ] at hS))
    have hat : RAt l 0 s0 := ⟨Nat.zero_le _, fun _ => by rw [H01.out]; rfl⟩
    refine (takeState_ok b _ s0 _ (by rw [H00.out] at *; exact hS.get 0 rfl) (by rw [H01.out]; exact back_inv hS hcap hcm)).mono ?_
    rintro e w4 ⟨cv, v4, x, rfl, hc, hsub, hrowx⟩
    replace hS := hS.call1 0 rfl hc
    try simp only [List.cons_append, List.nil_append, List.append_nil, List.set_cons_zero, List.set_cons_succ] at hS
    clear hc
    go_wp2_with fail
    refine (rtakeState_ok br _ l 0 s0 _ (by rw [H00.out]; exact hS.get 2 rfl) (URd.own Hu.out hl (hS.pick [2] rfl (by decide))) hat).mono ?_
    rintro e w5 ⟨cv2, at2, y, rfl, hc, hat2, hrowy⟩
    replace hS := hS.call1 2 rfl hc
    try simp only [List.cons_append, List.nil_append, List.append_nil, List.set_cons_zero, List.set_cons_succ] at hS
    clear hc hat
    obtain ⟨a1, c1, rfl⟩ := hrowx.isSl
    obtain ⟨a2, c2, rfl⟩ := hrowy.isSl
    have Hx := Lib.hid hrowx
    have Hy := Lib.hid hrowy
    have Hsm := Lib.hid (takeState_small s0)
    have Htd1 := Lib.hid (takeState_tidy s0 Htd.out)
    have Hsub := Lib.hid hsub
    have Hat := Lib.hid hat2
    clear hrowx hrowy hsub hat2
    generalize (takeState s0).1 = st at *
    generalize (takeState s0).2 = s1 at *
    go_upto_region 5 with (first
      | ((with_reducible show wpList _ _ _ (Oper.mk (some 5) (Op.alloc _) _ _ _ _ :: _) _ _); refine wpl rfl ?_; refine (owp_allocAt hS 5 rfl rfl ?_); clear hS; intro gx _ hS; simp only [List.cons_append, List.nil_append] at hS)
      | ((with_reducible show wpList _ _ _ (Oper.mk (some 6) (Op.alloc _) _ _ _ _ :: _) _ _); refine wpl rfl ?_; refine (owp_allocAt hS 6 rfl rfl ?_); clear hS; intro gy _ hS; simp only [List.cons_append, List.nil_append] at hS)
      | ((with_reducible show wpList _ _ _ (Oper.mk _ (Op.store 31 _ _) _ _ _ _ :: _) _ _); refine wpl rfl ?_; refine (owp_storeW hS 5 rfl rfl rfl rfl (by rfl) (by rfl) (State.one _ _ rfl) ?_); clear hS; intro _ hS; try simp only [List.cons_append, List.nil_append, List.append_nil, List.set_cons_zero, List.set_cons_succ] at hS)
      | ((with_reducible show wpList _ _ _ (Oper.mk _ (Op.store 59 _ _) _ _ _ _ :: _) _ _); refine wpl rfl ?_; refine (owp_storeW hS 6 rfl rfl rfl rfl (by rfl) (by rfl) (State.one _ _ rfl) ?_); clear hS; intro _ hS; try simp only [List.cons_append, List.nil_append, List.append_nil, List.set_cons_zero, List.set_cons_succ] at hS))
    try simp only [Act.put, List.setIfInBounds_toArray, List.set_cons_succ, List.set_cons_zero]
    go_cut [46] (fun s wr => s = .bool false ∧ St w [] wr [])
    case first =>
      have Hl1 := Lib.hid (show ((if s1.bad = 0 then s1.rest.length else 0 : Nat) : Int) = (s1.rest.length : Int) by rw [Htd1.out.left])
      replace hS := hS.drew
      refine wp_region_held_drew (S := (fun w' => CellsAt w' ⟨gx, 0, none⟩ (st.cells (.slice a1 st.conds.length c1)) ∧ CellsAt w' ⟨gy, 0, none⟩ (st.cells (.slice a2 st.conds.length c2)) ∧ w'.cell? ⟨br, 2, none⟩ = some (.int .i64 s1.bad))) (by kernel_rfl) ⟨(hS.get 5 rfl).range 0 7 rfl, (hS.get 6 rfl).range 0 7 rfl, (hS.get 2 rfl).cell 2 rfl⟩ (fun hHeld => ?_)
      refine htake (i := 0) (v := (.agg (st.cells (.slice a1 st.conds.length c1)).toArray)) rfl (by kernel_rfl) (by kernel_rfl) (by kernel_rfl) (fun _ _ _ h => h) (Or.inl ⟨by rfl, yl_loadR rfl rfl rfl (fun _ h => h.1)⟩) (by assumption) ?_; simp only [Act.put, List.setIfInBounds_toArray, List.set_cons_succ, List.set_cons_zero]
      refine htake (i := 2) (v := (.agg (st.cells (.slice a2 st.conds.length c2)).toArray)) rfl (by kernel_rfl) (by kernel_rfl) (by kernel_rfl) (fun _ _ _ h => h) (Or.inl ⟨by rfl, yl_loadR rfl rfl rfl (fun _ h => h.2.1)⟩) (by assumption) ?_; simp only [Act.put, List.setIfInBounds_toArray, List.set_cons_succ, List.set_cons_zero]
      refine wpAnyH_ready (rs := [1]) (by kernel_rfl) (by simp) ?_
      refine hcons rfl rfl (fun K hK => ?_) ?_
      · clear hHeld
        have hcall := stateFrom_ok st Hsm.out.hash (.slice a1 st.conds.length c1) _ (Hx.out.read (hS.get 3 rfl)) (Nat.le_trans Hsm.out.conds (by decide))
        refine owp_call rfl (by kernel_rfl) (args := #[.agg (st.cells (.slice a1 st.conds.length c1)).toArray]) rfl hcall ?_
        clear hcall
        rintro e w6 ⟨cv3, z, rfl, hc, hrowz⟩
        replace hS := hS.call0 hc
        try simp only [List.cons_append, List.nil_append, List.append_nil, List.set_cons_zero, List.set_cons_succ] at hS
        clear hc
        refine ⟨_, rfl, ?_⟩
        refine hK.out _ _ ⟨(hS.get 5 rfl).range 0 7 rfl, (hS.get 6 rfl).range 0 7 rfl, (hS.get 2 rfl).cell 2 rfl⟩ (fun hHeld => ?_)
        clear hK K
        simp only [Act.put, List.setIfInBounds_toArray, List.set_cons_succ, List.set_cons_zero]
        refine wpAnyH_ready (rs := [3]) (by kernel_rfl) (by simp) ?_
        refine hcons rfl rfl (fun K hK => ?_) ?_
        · clear hHeld
          have hcall := stateSame_ok st Hsm.out.hash cv3 (.slice a2 st.conds.length c2) _ (hrowz.read (hS.get 7 rfl)) (Hy.out.read (hS.get 4 rfl)) (Nat.le_trans Hsm.out.conds (by decide))
          refine owp_call rfl (by kernel_rfl) (args := #[.agg (st.cells cv3).toArray, .agg (st.cells (.slice a2 st.conds.length c2)).toArray]) rfl hcall ?_
          clear hcall hrowz
          rintro e w7 ⟨rfl, hc⟩
          replace hS := hS.call0 hc
          try simp only [List.cons_append, List.nil_append, List.append_nil, List.set_cons_zero, List.set_cons_succ] at hS
          clear hc
          refine ⟨_, rfl, ?_⟩
          refine hK.out _ _ ⟨(hS.get 5 rfl).range 0 7 rfl, (hS.get 6 rfl).range 0 7 rfl, (hS.get 2 rfl).cell 2 rfl⟩ (fun hHeld => ?_)
          clear hK K
          simp only [Act.put, List.setIfInBounds_toArray, List.set_cons_succ, List.set_cons_zero]
          refine htake (i := 4) (v := (.bool false)) rfl (by kernel_rfl) (by kernel_rfl) (by kernel_rfl) (fun _ _ _ h => h) (Or.inl ⟨by rfl, by (intro w hSw; (try dsimp only at hSw); (try obtain ⟨_, _, h3⟩ := hSw); go_simp; try with_reducible rfl)⟩) (by assumption) ?_; simp only [Act.put, List.setIfInBounds_toArray, List.set_cons_succ, List.set_cons_zero]
          refine htake (i := 5) (v := (.bool false)) rfl (by kernel_rfl) (by kernel_rfl) (by kernel_rfl) (fun _ _ _ h => h) (Or.inl ⟨by rfl, by (intro w hSw; (try dsimp only at hSw); (try obtain ⟨_, _, h3⟩ := hSw); go_simp; try with_reducible rfl)⟩) (by assumption) ?_; simp only [Act.put, List.setIfInBounds_toArray, List.set_cons_succ, List.set_cons_zero]
          refine htake (i := 6) (v := (.pointer (some ⟨b, 0, none⟩))) rfl (by kernel_rfl) (by kernel_rfl) (by kernel_rfl) (fun _ _ _ h => h) (Or.inl ⟨by rfl, by (intro w hSw; (try dsimp only at hSw); (try obtain ⟨_, _, h3⟩ := hSw); go_simp; try with_reducible rfl)⟩) (by assumption) ?_; simp only [Act.put, List.setIfInBounds_toArray, List.set_cons_succ, List.set_cons_zero]
          refine htake (i := 8) (v := (.pointer (some ⟨br, 0, none⟩))) rfl (by kernel_rfl) (by kernel_rfl) (by kernel_rfl) (fun _ _ _ h => h) (Or.inl ⟨by rfl, by (intro w hSw; (try dsimp only at hSw); (try obtain ⟨_, _, h3⟩ := hSw); go_simp; try with_reducible rfl)⟩) (by assumption) ?_; simp only [Act.put, List.setIfInBounds_toArray, List.set_cons_succ, List.set_cons_zero]
          refine htake (i := 9) (v := (.pointer (some ⟨br, 0, none⟩))) rfl (by kernel_rfl) (by kernel_rfl) (by kernel_rfl) (fun _ _ _ h => h) (Or.inl ⟨by rfl, by (intro w hSw; (try dsimp only at hSw); (try obtain ⟨_, _, h3⟩ := hSw); go_simp; try with_reducible rfl)⟩) (by assumption) ?_; simp only [Act.put, List.setIfInBounds_toArray, List.set_cons_succ, List.set_cons_zero]
          refine htake (i := 10) (v := (.pointer (some ⟨br, 2, none⟩))) rfl (by kernel_rfl) (by kernel_rfl) (by kernel_rfl) (fun _ _ _ h => h) (Or.inl ⟨by rfl, by (intro w hSw; (try dsimp only at hSw); (try obtain ⟨_, _, h3⟩ := hSw); go_simp; try with_reducible rfl)⟩) (by assumption) ?_; simp only [Act.put, List.setIfInBounds_toArray, List.set_cons_succ, List.set_cons_zero]
          refine htake (i := 11) (v := (.int .i64 s1.bad)) rfl (by kernel_rfl) (by kernel_rfl) (by kernel_rfl) (fun _ _ _ h => h) (Or.inl ⟨by rfl, by (intro w hSw; (try dsimp only at hSw); (try obtain ⟨_, _, h3⟩ := hSw); go_simp; try with_reducible rfl)⟩) (by assumption) ?_; simp only [Act.put, List.setIfInBounds_toArray, List.set_cons_succ, List.set_cons_zero]
          refine wpAnyH_ready (rs := [7]) (by kernel_rfl) (by simp) ?_
          refine hcons rfl rfl (fun K hK => ?_) ?_
          · clear hHeld
            refine owp_call rfl (by kernel_rfl) (args := #[.pointer (some ⟨b, 0, none⟩)]) rfl (bad_ok b _ _ _ (hS.get 0 rfl)) ?_
            rintro e w8 ⟨rfl, rfl⟩
            refine ⟨_, rfl, ?_⟩
            refine hK.out _ _ ⟨(hS.get 5 rfl).range 0 7 rfl, (hS.get 6 rfl).range 0 7 rfl, (hS.get 2 rfl).cell 2 rfl⟩ (fun hHeld => ?_)
            clear hK K
            simp only [Act.put, List.setIfInBounds_toArray, List.set_cons_succ, List.set_cons_zero]
            refine htake (i := 12) (v := (.bool false)) rfl (by kernel_rfl) (by kernel_rfl) (by kernel_rfl) (fun _ _ _ h => h) (Or.inl ⟨by rfl, by (intro w hSw; (try dsimp only at hSw); (try obtain ⟨_, _, h3⟩ := hSw); go_simp; try with_reducible rfl)⟩) (by assumption) ?_; simp only [Act.put, List.setIfInBounds_toArray, List.set_cons_succ, List.set_cons_zero]
            refine htake (i := 13) (v := (.bool false)) rfl (by kernel_rfl) (by kernel_rfl) (by kernel_rfl) (fun _ _ _ h => h) (Or.inl ⟨by rfl, by (intro w hSw; (try dsimp only at hSw); (try obtain ⟨_, _, h3⟩ := hSw); go_simp; try with_reducible rfl)⟩) (by assumption) ?_; simp only [Act.put, List.setIfInBounds_toArray, List.set_cons_succ, List.set_cons_zero]
            refine htake (i := 14) (v := (.bool false)) rfl (by kernel_rfl) (by kernel_rfl) (by kernel_rfl) (fun _ _ _ h => h) (Or.inl ⟨by rfl, by (intro w hSw; (try dsimp only at hSw); (try obtain ⟨_, _, h3⟩ := hSw); go_simp; try with_reducible rfl)⟩) (by assumption) ?_; simp only [Act.put, List.setIfInBounds_toArray, List.set_cons_succ, List.set_cons_zero]
            refine htake (i := 15) (v := (.pointer (some ⟨b, 0, none⟩))) rfl (by kernel_rfl) (by kernel_rfl) (by kernel_rfl) (fun _ _ _ h => h) (Or.inl ⟨by rfl, by (intro w hSw; (try dsimp only at hSw); (try obtain ⟨_, _, h3⟩ := hSw); go_simp; try with_reducible rfl)⟩) (by assumption) ?_; simp only [Act.put, List.setIfInBounds_toArray, List.set_cons_succ, List.set_cons_zero]
            refine htake (i := 17) (v := (.pointer (some ⟨br, 0, none⟩))) rfl (by kernel_rfl) (by kernel_rfl) (by kernel_rfl) (fun _ _ _ h => h) (Or.inl ⟨by rfl, by (intro w hSw; (try dsimp only at hSw); (try obtain ⟨_, _, h3⟩ := hSw); go_simp; try with_reducible rfl)⟩) (by assumption) ?_; simp only [Act.put, List.setIfInBounds_toArray, List.set_cons_succ, List.set_cons_zero]
            refine wpAnyH_ready (rs := [16]) (by kernel_rfl) (by simp) ?_
            refine hcons rfl rfl (fun K hK => ?_) ?_
            · clear hHeld
              have hin := Hsub.out _ b (by rw [H01.out]; exact back_inv (hS.pick [0, 1] rfl (by decide)) hcap hcm)
              refine owp_call rfl (by kernel_rfl) (args := #[.pointer (some ⟨b, 0, none⟩)]) rfl (left_ok b _ _ _ _ (hS.get 0 rfl) hin hin.le) ?_
              clear hin
              rintro e w9 ⟨rfl, rfl⟩
              refine ⟨_, rfl, ?_⟩
              refine hK.out _ _ ⟨(hS.get 5 rfl).range 0 7 rfl, (hS.get 6 rfl).range 0 7 rfl, (hS.get 2 rfl).cell 2 rfl⟩ (fun hHeld => ?_)
              clear hK K
              simp only [Act.put, List.setIfInBounds_toArray, List.set_cons_succ, List.set_cons_zero]
              refine wpAnyH_ready (rs := [18]) (by kernel_rfl) (by simp) ?_
              refine hcons rfl rfl (fun K hK => ?_) ?_
              · clear hHeld
                have hcall := rleft_ok br _ l at2 s1 _ (hS.get 2 rfl) (URd.own Hu.out hl (hS.pick [2] rfl (by decide))) Hat.out
                refine owp_call rfl (by kernel_rfl) (args := #[.pointer (some ⟨br, 0, none⟩)]) rfl hcall ?_
                clear hcall
                rintro e w10 ⟨rfl, hc⟩
                rw [Hl1.out]
                replace hS := hS.call1 (N := []) 2 rfl hc
                try simp only [List.cons_append, List.nil_append, List.append_nil, List.set_cons_zero, List.set_cons_succ] at hS
                clear hc
                refine ⟨_, rfl, ?_⟩
                refine hK.out _ _ ⟨(hS.get 5 rfl).range 0 7 rfl, (hS.get 6 rfl).range 0 7 rfl, (hS.get 2 rfl).cell 2 rfl⟩ (fun hHeld => ?_)
                clear hK K
                simp only [Act.put, List.setIfInBounds_toArray, List.set_cons_succ, List.set_cons_zero]
                refine htake (i := 19) (v := (.bool false)) rfl (by kernel_rfl) (by kernel_rfl) (by kernel_rfl) (fun _ _ _ h => h) (Or.inl ⟨by rfl, by (intro w hSw; (try dsimp only at hSw); (try obtain ⟨_, _, h3⟩ := hSw); go_simp; try with_reducible rfl)⟩) (by assumption) ?_; simp only [Act.put, List.setIfInBounds_toArray, List.set_cons_succ, List.set_cons_zero]
                refine htake (i := 20) (v := (.bool false)) rfl (by kernel_rfl) (by kernel_rfl) (by kernel_rfl) (fun _ _ _ h => h) (Or.inl ⟨by rfl, by (intro w hSw; (try dsimp only at hSw); (try obtain ⟨_, _, h3⟩ := hSw); go_simp; try with_reducible rfl)⟩) (by assumption) ?_; simp only [Act.put, List.setIfInBounds_toArray, List.set_cons_succ, List.set_cons_zero]
                refine wpAnyH_done (by kernel_rfl) ?_ _
                clear hHeld
                go_wp2_with fail
                go_meet
                exact ⟨rfl, hS.pick [] rfl (by decide)⟩
              exact AllReadyH.nil
            exact AllReadyH.nil
          exact AllReadyH.nil
        exact AllReadyH.nil
      exact AllReadyH.nil
    case rest =>
      clear hS Hsub Hat Htd1 Hsm Hx Hy hcap hcm
      obtain ⟨rfl, hS⟩ := hcut
      go_wp2_with fail
      refine (of_ok2 _ l _ (Hu.out.st0 hS) hl).mono ?_
      rintro e w3 ⟨b, g, cap, sp, rfl, hc, hcap, hcm⟩
      replace hS := (hS.call0 hc).pick (L' := [inBlk b (.slice (some ⟨g, 0, none⟩) l.length cap) 0, backBlk g l sp]) [0, 1] rfl (by decide)
      clear hc
      rw [← H00.out] at hS
      go_wp2_with (first
        | ((with_reducible show wpList _ _ _ (Oper.mk _ (Op.build _ _) _ _ _ _ :: _) _ _); refine wpl rfl ?_; refine owp_build rfl [(0, .slice _ _ _)] rfl (build_in _ _ _ _) ?_)
        | ((with_reducible show wpList _ _ _ (Oper.mk _ (Op.box _ _) _ _ _ _ :: _) _ _); refine wpl rfl ?_; refine owp_box hS rfl (vs := [_, _, _]) rfl ?_; clear hS; intro br _ hS; try simp only [List.cons_append, List.nil_append, List.append_nil, List.set_cons_zero, List.set_cons_succ] at hS))
      have hat : RAt l 0 s0 := ⟨Nat.zero_le _, fun _ => by rw [H01.out]; rfl⟩
      refine (takeOp_ok b _ s0 _ (hS.get 0 rfl) (by rw [H01.out]; exact back_inv hS hcap hcm)).mono ?_
      rintro e w4 ⟨rfl, v4, hc, hsub⟩
      replace hS := hS.call1 0 rfl hc
      try simp only [List.cons_append, List.nil_append, List.append_nil, List.set_cons_zero, List.set_cons_succ] at hS
      clear hc
      go_wp2_with fail
      refine (rtakeOp_ok br _ l 0 s0 _ (by rw [H00.out]; exact hS.get 2 rfl) (URd.own Hu.out hl (hS.pick [2] rfl (by decide))) hat).mono ?_
      rintro e w5 ⟨rfl, at2, hc, hat2⟩
      replace hS := hS.call1 2 rfl hc
      try simp only [List.cons_append, List.nil_append, List.append_nil, List.set_cons_zero, List.set_cons_succ] at hS
      clear hc hat
      have Hh := Lib.hid (takeOp_hash s0)
      have Htd1 := Lib.hid (takeOp_tidy s0 Htd.out)
      have Hsub := Lib.hid hsub
      have Hat := Lib.hid hat2
      clear hsub hat2
      generalize (takeOp s0).1 = op at *
      generalize (takeOp s0).2 = s1 at *
      have Hol := Lib.hid (Oop.len op Hh.out)
      have Hoz := Lib.hid (Oop.len Oop.zero (zb_length 32))
      go_upto_region 9 with (first
        | ((with_reducible show wpList _ _ _ (Oper.mk (some 7) (Op.alloc _) _ _ _ _ :: _) _ _); refine wpl rfl ?_; refine (owp_allocAt hS 7 rfl rfl ?_); clear hS; intro gx _ hS; simp only [List.cons_append, List.nil_append] at hS)
        | ((with_reducible show wpList _ _ _ (Oper.mk (some 8) (Op.alloc _) _ _ _ _ :: _) _ _); refine wpl rfl ?_; refine (owp_allocAt hS 8 rfl rfl ?_); clear hS; intro gy _ hS; simp only [List.cons_append, List.nil_append] at hS)
        | ((with_reducible show wpList _ _ _ (Oper.mk _ (Op.store 88 _ _) _ _ _ _ :: _) _ _); refine wpl rfl ?_; refine (owp_storeW hS 3 rfl rfl rfl rfl Hol.out Hoz.out (Oop.one _) ?_); clear hS; intro _ hS; try simp only [List.cons_append, List.nil_append, List.append_nil, List.set_cons_zero, List.set_cons_succ] at hS)
        | ((with_reducible show wpList _ _ _ (Oper.mk _ (Op.store 93 _ _) _ _ _ _ :: _) _ _); refine wpl rfl ?_; refine (owp_storeW hS 4 rfl rfl rfl rfl Hol.out Hoz.out (Oop.one _) ?_); clear hS; intro _ hS; try simp only [List.cons_append, List.nil_append, List.append_nil, List.set_cons_zero, List.set_cons_succ] at hS))
      try simp only [Act.put, List.setIfInBounds_toArray, List.set_cons_succ, List.set_cons_zero]
      go_cut [75] (fun s wr => s = .bool false ∧ St w [] wr [])
      case first =>
        have Hl1 := Lib.hid (show ((if s1.bad = 0 then s1.rest.length else 0 : Nat) : Int) = (s1.rest.length : Int) by rw [Htd1.out.left])
        have Hk := Lib.hid (Oop.like op Hh.out)
        replace hS := hS.drew
        refine wp_region_held_drew (S := (fun w' => CellsAt w' ⟨gx, 0, none⟩ op.cells ∧ CellsAt w' ⟨gy, 0, none⟩ op.cells ∧ w'.cell? ⟨br, 2, none⟩ = some (.int .i64 s1.bad))) (by kernel_rfl) ⟨(hS.get 3 rfl).range 0 39 (by rw [List.drop_zero, List.take_of_length_le (Nat.le_of_eq Hol.out)]), (hS.get 4 rfl).range 0 39 (by rw [List.drop_zero, List.take_of_length_le (Nat.le_of_eq Hol.out)]), (hS.get 2 rfl).cell 2 rfl⟩ (fun hHeld => ?_)
        refine htake (i := 0) (v := (.agg op.cells.toArray)) rfl (by kernel_rfl) (by kernel_rfl) (by kernel_rfl) (fun _ _ _ h => h) (Or.inl ⟨by rfl, yl_loadR rfl rfl Hol.out (fun _ h => h.1)⟩) (by assumption) ?_; simp only [Act.put, List.setIfInBounds_toArray, List.set_cons_succ, List.set_cons_zero]
        refine htake (i := 1) (v := (.agg op.cells.toArray)) rfl (by kernel_rfl) (by kernel_rfl) (by kernel_rfl) (fun _ _ _ h => h) (Or.inl ⟨by rfl, yl_loadR rfl rfl Hol.out (fun _ h => h.2.1)⟩) (by assumption) ?_; simp only [Act.put, List.setIfInBounds_toArray, List.set_cons_succ, List.set_cons_zero]
        refine wpAnyH_ready (rs := [2]) (by kernel_rfl) (by simp) ?_
        refine hcons rfl rfl (fun K hK => ?_) ?_
        · clear hHeld
          refine owp_call rfl (by kernel_rfl) (args := #[.agg op.cells.toArray]) rfl (opTo_ok op Hh.out _) ?_
          rintro e w6 ⟨rfl, hc⟩
          replace hS := hS.call0 hc
          try simp only [List.cons_append, List.nil_append, List.append_nil, List.set_cons_zero, List.set_cons_succ] at hS
          clear hc
          refine ⟨_, rfl, ?_⟩
          refine hK.out _ _ ⟨(hS.get 3 rfl).range 0 39 (by rw [List.drop_zero, List.take_of_length_le (Nat.le_of_eq Hol.out)]), (hS.get 4 rfl).range 0 39 (by rw [List.drop_zero, List.take_of_length_le (Nat.le_of_eq Hol.out)]), (hS.get 2 rfl).cell 2 rfl⟩ (fun hHeld => ?_)
          clear hK K
          simp only [Act.put, List.setIfInBounds_toArray, List.set_cons_succ, List.set_cons_zero]
          refine htake (i := 3) (v := (.bool false)) rfl (by kernel_rfl) (by kernel_rfl) (by kernel_rfl) (fun _ _ _ h => h) (Or.inl ⟨by rfl, (fun _ _ => run_neq_same rfl e_op (by decide) gd_op rfl rfl Hk.out)⟩) (by assumption) ?_; simp only [Act.put, List.setIfInBounds_toArray, List.set_cons_succ, List.set_cons_zero]
          refine htake (i := 4) (v := (.bool false)) rfl (by kernel_rfl) (by kernel_rfl) (by kernel_rfl) (fun _ _ _ h => h) (Or.inl ⟨by rfl, by (intro w hSw; (try dsimp only at hSw); (try obtain ⟨_, _, h3⟩ := hSw); go_simp; try with_reducible rfl)⟩) (by assumption) ?_; simp only [Act.put, List.setIfInBounds_toArray, List.set_cons_succ, List.set_cons_zero]
          refine htake (i := 5) (v := (.pointer (some ⟨b, 0, none⟩))) rfl (by kernel_rfl) (by kernel_rfl) (by kernel_rfl) (fun _ _ _ h => h) (Or.inl ⟨by rfl, by (intro w hSw; (try dsimp only at hSw); (try obtain ⟨_, _, h3⟩ := hSw); go_simp; try with_reducible rfl)⟩) (by assumption) ?_; simp only [Act.put, List.setIfInBounds_toArray, List.set_cons_succ, List.set_cons_zero]
          refine htake (i := 7) (v := (.pointer (some ⟨br, 0, none⟩))) rfl (by kernel_rfl) (by kernel_rfl) (by kernel_rfl) (fun _ _ _ h => h) (Or.inl ⟨by rfl, by (intro w hSw; (try dsimp only at hSw); (try obtain ⟨_, _, h3⟩ := hSw); go_simp; try with_reducible rfl)⟩) (by assumption) ?_; simp only [Act.put, List.setIfInBounds_toArray, List.set_cons_succ, List.set_cons_zero]
          refine htake (i := 8) (v := (.pointer (some ⟨br, 0, none⟩))) rfl (by kernel_rfl) (by kernel_rfl) (by kernel_rfl) (fun _ _ _ h => h) (Or.inl ⟨by rfl, by (intro w hSw; (try dsimp only at hSw); (try obtain ⟨_, _, h3⟩ := hSw); go_simp; try with_reducible rfl)⟩) (by assumption) ?_; simp only [Act.put, List.setIfInBounds_toArray, List.set_cons_succ, List.set_cons_zero]
          refine htake (i := 9) (v := (.pointer (some ⟨br, 2, none⟩))) rfl (by kernel_rfl) (by kernel_rfl) (by kernel_rfl) (fun _ _ _ h => h) (Or.inl ⟨by rfl, by (intro w hSw; (try dsimp only at hSw); (try obtain ⟨_, _, h3⟩ := hSw); go_simp; try with_reducible rfl)⟩) (by assumption) ?_; simp only [Act.put, List.setIfInBounds_toArray, List.set_cons_succ, List.set_cons_zero]
          refine htake (i := 10) (v := (.int .i64 s1.bad)) rfl (by kernel_rfl) (by kernel_rfl) (by kernel_rfl) (fun _ _ _ h => h) (Or.inl ⟨by rfl, by (intro w hSw; (try dsimp only at hSw); (try obtain ⟨_, _, h3⟩ := hSw); go_simp; try with_reducible rfl)⟩) (by assumption) ?_; simp only [Act.put, List.setIfInBounds_toArray, List.set_cons_succ, List.set_cons_zero]
          refine wpAnyH_ready (rs := [6]) (by kernel_rfl) (by simp) ?_
          refine hcons rfl rfl (fun K hK => ?_) ?_
          · clear hHeld
            refine owp_call rfl (by kernel_rfl) (args := #[.pointer (some ⟨b, 0, none⟩)]) rfl (bad_ok b _ _ _ (hS.get 0 rfl)) ?_
            rintro e w8 ⟨rfl, rfl⟩
            refine ⟨_, rfl, ?_⟩
            refine hK.out _ _ ⟨(hS.get 3 rfl).range 0 39 (by rw [List.drop_zero, List.take_of_length_le (Nat.le_of_eq Hol.out)]), (hS.get 4 rfl).range 0 39 (by rw [List.drop_zero, List.take_of_length_le (Nat.le_of_eq Hol.out)]), (hS.get 2 rfl).cell 2 rfl⟩ (fun hHeld => ?_)
            clear hK K
            simp only [Act.put, List.setIfInBounds_toArray, List.set_cons_succ, List.set_cons_zero]
            refine htake (i := 11) (v := (.bool false)) rfl (by kernel_rfl) (by kernel_rfl) (by kernel_rfl) (fun _ _ _ h => h) (Or.inl ⟨by rfl, by (intro w hSw; (try dsimp only at hSw); (try obtain ⟨_, _, h3⟩ := hSw); go_simp; try with_reducible rfl)⟩) (by assumption) ?_; simp only [Act.put, List.setIfInBounds_toArray, List.set_cons_succ, List.set_cons_zero]
            refine htake (i := 12) (v := (.bool false)) rfl (by kernel_rfl) (by kernel_rfl) (by kernel_rfl) (fun _ _ _ h => h) (Or.inl ⟨by rfl, by (intro w hSw; (try dsimp only at hSw); (try obtain ⟨_, _, h3⟩ := hSw); go_simp; try with_reducible rfl)⟩) (by assumption) ?_; simp only [Act.put, List.setIfInBounds_toArray, List.set_cons_succ, List.set_cons_zero]
            refine htake (i := 13) (v := (.bool false)) rfl (by kernel_rfl) (by kernel_rfl) (by kernel_rfl) (fun _ _ _ h => h) (Or.inl ⟨by rfl, by (intro w hSw; (try dsimp only at hSw); (try obtain ⟨_, _, h3⟩ := hSw); go_simp; try with_reducible rfl)⟩) (by assumption) ?_; simp only [Act.put, List.setIfInBounds_toArray, List.set_cons_succ, List.set_cons_zero]
            refine htake (i := 14) (v := (.pointer (some ⟨b, 0, none⟩))) rfl (by kernel_rfl) (by kernel_rfl) (by kernel_rfl) (fun _ _ _ h => h) (Or.inl ⟨by rfl, by (intro w hSw; (try dsimp only at hSw); (try obtain ⟨_, _, h3⟩ := hSw); go_simp; try with_reducible rfl)⟩) (by assumption) ?_; simp only [Act.put, List.setIfInBounds_toArray, List.set_cons_succ, List.set_cons_zero]
            refine htake (i := 16) (v := (.pointer (some ⟨br, 0, none⟩))) rfl (by kernel_rfl) (by kernel_rfl) (by kernel_rfl) (fun _ _ _ h => h) (Or.inl ⟨by rfl, by (intro w hSw; (try dsimp only at hSw); (try obtain ⟨_, _, h3⟩ := hSw); go_simp; try with_reducible rfl)⟩) (by assumption) ?_; simp only [Act.put, List.setIfInBounds_toArray, List.set_cons_succ, List.set_cons_zero]
            refine wpAnyH_ready (rs := [15]) (by kernel_rfl) (by simp) ?_
            refine hcons rfl rfl (fun K hK => ?_) ?_
            · clear hHeld
              have hin := Hsub.out _ b (by rw [H01.out]; exact back_inv (hS.pick [0, 1] rfl (by decide)) hcap hcm)
              refine owp_call rfl (by kernel_rfl) (args := #[.pointer (some ⟨b, 0, none⟩)]) rfl (left_ok b _ _ _ _ (hS.get 0 rfl) hin hin.le) ?_
              clear hin
              rintro e w9 ⟨rfl, rfl⟩
              refine ⟨_, rfl, ?_⟩
              refine hK.out _ _ ⟨(hS.get 3 rfl).range 0 39 (by rw [List.drop_zero, List.take_of_length_le (Nat.le_of_eq Hol.out)]), (hS.get 4 rfl).range 0 39 (by rw [List.drop_zero, List.take_of_length_le (Nat.le_of_eq Hol.out)]), (hS.get 2 rfl).cell 2 rfl⟩ (fun hHeld => ?_)
              clear hK K
              simp only [Act.put, List.setIfInBounds_toArray, List.set_cons_succ, List.set_cons_zero]
              refine wpAnyH_ready (rs := [17]) (by kernel_rfl) (by simp) ?_
              refine hcons rfl rfl (fun K hK => ?_) ?_
              · clear hHeld
                have hcall := rleft_ok br _ l at2 s1 _ (hS.get 2 rfl) (URd.own Hu.out hl (hS.pick [2] rfl (by decide))) Hat.out
                refine owp_call rfl (by kernel_rfl) (args := #[.pointer (some ⟨br, 0, none⟩)]) rfl hcall ?_
                clear hcall
                rintro e w10 ⟨rfl, hc⟩
                rw [Hl1.out]
                replace hS := hS.call1 (N := []) 2 rfl hc
                try simp only [List.cons_append, List.nil_append, List.append_nil, List.set_cons_zero, List.set_cons_succ] at hS
                clear hc
                refine ⟨_, rfl, ?_⟩
                refine hK.out _ _ ⟨(hS.get 3 rfl).range 0 39 (by rw [List.drop_zero, List.take_of_length_le (Nat.le_of_eq Hol.out)]), (hS.get 4 rfl).range 0 39 (by rw [List.drop_zero, List.take_of_length_le (Nat.le_of_eq Hol.out)]), (hS.get 2 rfl).cell 2 rfl⟩ (fun hHeld => ?_)
                clear hK K
                simp only [Act.put, List.setIfInBounds_toArray, List.set_cons_succ, List.set_cons_zero]
                refine htake (i := 18) (v := (.bool false)) rfl (by kernel_rfl) (by kernel_rfl) (by kernel_rfl) (fun _ _ _ h => h) (Or.inl ⟨by rfl, by (intro w hSw; (try dsimp only at hSw); (try obtain ⟨_, _, h3⟩ := hSw); go_simp; try with_reducible rfl)⟩) (by assumption) ?_; simp only [Act.put, List.setIfInBounds_toArray, List.set_cons_succ, List.set_cons_zero]
                refine htake (i := 19) (v := (.bool false)) rfl (by kernel_rfl) (by kernel_rfl) (by kernel_rfl) (fun _ _ _ h => h) (Or.inl ⟨by rfl, by (intro w hSw; (try dsimp only at hSw); (try obtain ⟨_, _, h3⟩ := hSw); go_simp; try with_reducible rfl)⟩) (by assumption) ?_; simp only [Act.put, List.setIfInBounds_toArray, List.set_cons_succ, List.set_cons_zero]
                refine wpAnyH_done (by kernel_rfl) ?_ _
                clear hHeld
                go_wp2_with fail
                go_meet
                exact ⟨rfl, hS.pick [] rfl (by decide)⟩
              exact AllReadyH.nil
            exact AllReadyH.nil
          exact AllReadyH.nil
        exact AllReadyH.nil
      case rest =>
        clear hS Hsub Hat Htd1 Hh Hol hcap hcm
        obtain ⟨rfl, hS⟩ := hcut
        go_wp2_with fail
        refine (readDeed_ok _ l _ (Hu.out.st0 hS) hl).mono ?_
        rintro e w6 ⟨cv, av, bv, x, y, z, rfl, hc, hx, hy, hz⟩
        replace hS := hS.call0 hc
        try simp only [List.cons_append, List.nil_append, List.append_nil, List.set_cons_zero, List.set_cons_succ] at hS
        clear hc
        have Hsm := Lib.hid (readDeed_small l)
        have HR := Lib.hid (fun w' h => rreadDeed_ok (.slice a0 l.length c0) l w' h hl)
        generalize (readDeed l).1 = d at *
        generalize (readDeed l).2 = er at *
        have Hfit := Lib.hid Hsm.out.fit
        obtain ⟨a1, c1, rfl⟩ := hx.isSl
        obtain ⟨a2, c2, rfl⟩ := hy.isSl
        obtain ⟨a3, c3, rfl⟩ := hz.isSl
        have Hx := Lib.hid hx
        have Hy := Lib.hid hy
        have Hz := Lib.hid hz
        clear hx hy hz
        go_wp2_with (first
          | ((with_reducible show wpList _ _ _ (Oper.mk (some 9) (Op.alloc _) _ _ _ _ :: _) _ _); refine wpl rfl ?_; refine (owp_allocAt hS 9 rfl rfl ?_); clear hS; intro gx _ hS; simp only [List.cons_append, List.nil_append] at hS)
          | ((with_reducible show wpList _ _ _ (Oper.mk _ (Op.store _ _ _) _ _ _ _ :: _) _ _); refine wpl rfl ?_; refine (owp_storeW hS 3 rfl rfl rfl rfl (Hfit.out.len _ _ _) (Deed.Fit.zero.len _ _ _) (Deed.one _ _ _ _ rfl rfl rfl) ?_); clear hS; intro _ hS; try simp only [List.cons_append, List.nil_append, List.append_nil, List.set_cons_zero, List.set_cons_succ] at hS))
        refine (HR.out _ (Hu.out.st0 hS)).mono ?_
        rintro e w7 ⟨cv2, av2, bv2, x2, y2, z2, rfl, hc, hx, hy, hz⟩
        replace hS := hS.call0 hc
        try simp only [List.cons_append, List.nil_append, List.append_nil, List.set_cons_zero, List.set_cons_succ] at hS
        clear hc
        obtain ⟨a4, c4, rfl⟩ := hx.isSl
        obtain ⟨a5, c5, rfl⟩ := hy.isSl
        obtain ⟨a6, c6, rfl⟩ := hz.isSl
        have Hx2 := Lib.hid hx
        have Hy2 := Lib.hid hy
        have Hz2 := Lib.hid hz
        clear hx hy hz
        go_wp2_with (first
          | ((with_reducible show wpList _ _ _ (Oper.mk (some 11) (Op.alloc _) _ _ _ _ :: _) _ _); refine wpl rfl ?_; refine (owp_allocAt hS 11 rfl rfl ?_); clear hS; intro gy _ hS; simp only [List.cons_append, List.nil_append] at hS)
          | ((with_reducible show wpList _ _ _ (Oper.mk _ (Op.store _ _ _) _ _ _ _ :: _) _ _); refine wpl rfl ?_; refine (owp_storeW hS 7 rfl rfl rfl rfl (Hfit.out.len _ _ _) (Deed.Fit.zero.len _ _ _) (Deed.one _ _ _ _ rfl rfl rfl) ?_); clear hS; intro _ hS; try simp only [List.cons_append, List.nil_append, List.append_nil, List.set_cons_zero, List.set_cons_succ] at hS))
        try simp only [Act.put, List.setIfInBounds_toArray, List.set_cons_succ, List.set_cons_zero]
        replace hS := hS.drew
        refine wp_region_held_drew (S := (fun w' => CellsAt w' ⟨gx, 0, none⟩ (d.cells (.slice a1 d.s.conds.length c1) (.slice a2 d.a.way.length c2) (.slice a3 d.b.way.length c3)) ∧ CellsAt w' ⟨gy, 0, none⟩ (d.cells (.slice a4 d.s.conds.length c4) (.slice a5 d.a.way.length c5) (.slice a6 d.b.way.length c6)))) (by kernel_rfl) ⟨(hS.get 3 rfl).range 0 2059 (by rw [List.drop_zero, List.take_of_length_le (Nat.le_of_eq (Hfit.out.len _ _ _))]), (hS.get 7 rfl).range 0 2059 (by rw [List.drop_zero, List.take_of_length_le (Nat.le_of_eq (Hfit.out.len _ _ _))])⟩ (fun hHeld => ?_)
        refine wpAnyH_ready (rs := [0]) (by kernel_rfl) (by simp) ?_
        refine hcons rfl rfl (fun K hK => ?_) ?_
        · clear hHeld
          refine owp_call rfl (by kernel_rfl) (args := #[]) rfl (awakeD_ok _) ?_
          rintro e w8 ⟨rfl, hc⟩
          replace hS := hS.call0 hc
          try simp only [List.cons_append, List.nil_append, List.append_nil, List.set_cons_zero, List.set_cons_succ] at hS
          clear hc
          refine ⟨_, rfl, ?_⟩
          refine hK.out _ _ ⟨(hS.get 3 rfl).range 0 2059 (by rw [List.drop_zero, List.take_of_length_le (Nat.le_of_eq (Hfit.out.len _ _ _))]), (hS.get 7 rfl).range 0 2059 (by rw [List.drop_zero, List.take_of_length_le (Nat.le_of_eq (Hfit.out.len _ _ _))])⟩ (fun hHeld => ?_)
          clear hK K
          simp only [Act.put, List.setIfInBounds_toArray, List.set_cons_succ, List.set_cons_zero]
          refine htake (i := 1) (v := (.bool true)) rfl (by kernel_rfl) (by kernel_rfl) (by kernel_rfl) (fun _ _ _ h => h) (Or.inl ⟨by rfl, by (intro w hSw; (try dsimp only at hSw); (try obtain ⟨_, _⟩ := hSw); go_simp; try with_reducible rfl)⟩) (by assumption) ?_; simp only [Act.put, List.setIfInBounds_toArray, List.set_cons_succ, List.set_cons_zero]
          refine htake (i := 2) (v := (.int .i64 er)) rfl (by kernel_rfl) (by kernel_rfl) (by kernel_rfl) (fun _ _ _ h => h) (Or.inl ⟨by rfl, by (intro w hSw; (try dsimp only at hSw); (try obtain ⟨_, _⟩ := hSw); go_simp; try with_reducible rfl)⟩) (by assumption) ?_; simp only [Act.put, List.setIfInBounds_toArray, List.set_cons_succ, List.set_cons_zero]
          refine htake (i := 3) (v := (.int .i64 er)) rfl (by kernel_rfl) (by kernel_rfl) (by kernel_rfl) (fun _ _ _ h => h) (Or.inl ⟨by rfl, by (intro w hSw; (try dsimp only at hSw); (try obtain ⟨_, _⟩ := hSw); go_simp; try with_reducible rfl)⟩) (by assumption) ?_; simp only [Act.put, List.setIfInBounds_toArray, List.set_cons_succ, List.set_cons_zero]
          refine htake (i := 4) (v := (.bool true)) rfl (by kernel_rfl) (by kernel_rfl) (by kernel_rfl) (fun _ _ _ h => h) (Or.inl ⟨by rfl, by (intro w hSw; (try dsimp only at hSw); (try obtain ⟨_, _⟩ := hSw); go_simp; try with_reducible rfl)⟩) (by assumption) ?_; simp only [Act.put, List.setIfInBounds_toArray, List.set_cons_succ, List.set_cons_zero]
          refine htake (i := 5) (v := (.bool true)) rfl (by kernel_rfl) (by kernel_rfl) (by kernel_rfl) (fun _ _ _ h => h) (Or.inl ⟨by rfl, by (intro w hSw; (try dsimp only at hSw); (try obtain ⟨_, _⟩ := hSw); go_simp; try with_reducible rfl)⟩) (by assumption) ?_; simp only [Act.put, List.setIfInBounds_toArray, List.set_cons_succ, List.set_cons_zero]
          refine htake (i := 6) (v := (.bool true)) rfl (by kernel_rfl) (by kernel_rfl) (by kernel_rfl) (fun _ _ _ h => h) (Or.inl ⟨by rfl, by (intro w hSw; (try dsimp only at hSw); (try obtain ⟨_, _⟩ := hSw); go_simp; try with_reducible rfl)⟩) (by assumption) ?_; simp only [Act.put, List.setIfInBounds_toArray, List.set_cons_succ, List.set_cons_zero]
          refine htake (i := 7) (v := (.agg (d.cells (.slice a1 d.s.conds.length c1) (.slice a2 d.a.way.length c2) (.slice a3 d.b.way.length c3)).toArray)) rfl (by kernel_rfl) (by kernel_rfl) (by kernel_rfl) (fun _ _ _ h => h) (Or.inl ⟨by rfl, yl_loadR rfl rfl (Hfit.out.len _ _ _) (fun _ h => h.1)⟩) (by assumption) ?_; simp only [Act.put, List.setIfInBounds_toArray, List.set_cons_succ, List.set_cons_zero]
          refine htake (i := 9) (v := (.agg (d.cells (.slice a4 d.s.conds.length c4) (.slice a5 d.a.way.length c5) (.slice a6 d.b.way.length c6)).toArray)) rfl (by kernel_rfl) (by kernel_rfl) (by kernel_rfl) (fun _ _ _ h => h) (Or.inl ⟨by rfl, yl_loadR rfl rfl (Hfit.out.len _ _ _) (fun _ h => h.2)⟩) (by assumption) ?_; simp only [Act.put, List.setIfInBounds_toArray, List.set_cons_succ, List.set_cons_zero]
          refine wpAnyH_ready (rs := [8]) (by kernel_rfl) (by simp) ?_
          refine hcons rfl rfl (fun K hK => ?_) ?_
          · clear hHeld
            have hcall := deedFrom_ok d Hsm.out (.slice a1 d.s.conds.length c1) (.slice a2 d.a.way.length c2) (.slice a3 d.b.way.length c3) _ (Hx.out.read (hS.get 0 rfl)) (Hy.out.read (hS.get 1 rfl)) (Hz.out.read (hS.get 2 rfl))
            refine owp_call rfl (by kernel_rfl) (args := #[.agg (d.cells (.slice a1 d.s.conds.length c1) (.slice a2 d.a.way.length c2) (.slice a3 d.b.way.length c3)).toArray]) rfl hcall ?_
            clear hcall
            rintro e w9 ⟨cv7, av7, bv7, x7, y7, z7, rfl, hc, hx7, hy7, hz7⟩
            replace hS := hS.call0 hc
            try simp only [List.cons_append, List.nil_append, List.append_nil, List.set_cons_zero, List.set_cons_succ] at hS
            clear hc
            refine ⟨_, rfl, ?_⟩
            refine hK.out _ _ ⟨(hS.get 3 rfl).range 0 2059 (by rw [List.drop_zero, List.take_of_length_le (Nat.le_of_eq (Hfit.out.len _ _ _))]), (hS.get 7 rfl).range 0 2059 (by rw [List.drop_zero, List.take_of_length_le (Nat.le_of_eq (Hfit.out.len _ _ _))])⟩ (fun hHeld => ?_)
            clear hK K
            simp only [Act.put, List.setIfInBounds_toArray, List.set_cons_succ, List.set_cons_zero]
            refine wpAnyH_ready (rs := [10]) (by kernel_rfl) (by simp) ?_
            refine hcons rfl rfl (fun K hK => ?_) ?_
            · clear hHeld
              have hcall := deedSame_ok d Hsm.out cv7 av7 bv7 (.slice a4 d.s.conds.length c4) (.slice a5 d.a.way.length c5) (.slice a6 d.b.way.length c6) _ (hx7.read (hS.get 8 rfl)) (hy7.read (hS.get 9 rfl)) (hz7.read (hS.get 10 rfl)) (Hx2.out.read (hS.get 4 rfl)) (Hy2.out.read (hS.get 5 rfl)) (Hz2.out.read (hS.get 6 rfl))
              refine owp_call rfl (by kernel_rfl) (args := #[.agg (d.cells cv7 av7 bv7).toArray, .agg (d.cells (.slice a4 d.s.conds.length c4) (.slice a5 d.a.way.length c5) (.slice a6 d.b.way.length c6)).toArray]) rfl hcall ?_
              clear hcall
              rintro e w10 ⟨rfl, hc⟩
              replace hS := hS.call0 hc
              try simp only [List.cons_append, List.nil_append, List.append_nil, List.set_cons_zero, List.set_cons_succ] at hS
              clear hc hx7 hy7 hz7
              refine ⟨_, rfl, ?_⟩
              refine hK.out _ _ ⟨(hS.get 3 rfl).range 0 2059 (by rw [List.drop_zero, List.take_of_length_le (Nat.le_of_eq (Hfit.out.len _ _ _))]), (hS.get 7 rfl).range 0 2059 (by rw [List.drop_zero, List.take_of_length_le (Nat.le_of_eq (Hfit.out.len _ _ _))])⟩ (fun hHeld => ?_)
              clear hK K
              simp only [Act.put, List.setIfInBounds_toArray, List.set_cons_succ, List.set_cons_zero]
              refine htake (i := 11) (v := (.bool true)) rfl (by kernel_rfl) (by kernel_rfl) (by kernel_rfl) (fun _ _ _ h => h) (Or.inl ⟨by rfl, by (intro w hSw; (try dsimp only at hSw); (try obtain ⟨_, _⟩ := hSw); go_simp; try with_reducible rfl)⟩) (by assumption) ?_; simp only [Act.put, List.setIfInBounds_toArray, List.set_cons_succ, List.set_cons_zero]
              refine htake (i := 12) (v := (.bool true)) rfl (by kernel_rfl) (by kernel_rfl) (by kernel_rfl) (fun _ _ _ h => h) (Or.inl ⟨by rfl, by (intro w hSw; (try dsimp only at hSw); (try obtain ⟨_, _⟩ := hSw); go_simp; try with_reducible rfl)⟩) (by assumption) ?_; simp only [Act.put, List.setIfInBounds_toArray, List.set_cons_succ, List.set_cons_zero]
              refine wpAnyH_done (by kernel_rfl) ?_ _
              clear hHeld
              go_wp2_with fail
              go_ret
              exact ⟨rfl, hS.pick [] rfl (by decide)⟩
            exact AllReadyH.nil
          exact AllReadyH.nil
        exact AllReadyH.nil

end Go.Proofs.Ytldmkafobbemjaa
