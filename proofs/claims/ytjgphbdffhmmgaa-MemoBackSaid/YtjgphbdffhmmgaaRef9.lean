/-
  Whether a memo has just what its kind has, as the document says it.
-/
import Derived.Test.YtjgphbdffhmmgaaRef8
namespace Go.Proofs.Ytjgphbdffhmmgaa
set_option linter.unusedSimpArgs false
set_option linter.unusedVariables false
open Go Go.RowKit
set_option maxRecDepth 100000
set_option maxHeartbeats 2000000

theorem gd_opR : Try.prog.eqGuardType Try.prog.depth 50 = false := by kernel_rfl
theorem gd_lsigR : Try.prog.eqGuardType Try.prog.depth 55 = false := by kernel_rfl
theorem build_lsigR0 (w : World) : (Instr.build 55 #[]).run Try.prog w = .ok (.agg LSig.zero.cells.toArray) w := by kernel_rfl

theorem rright_ok (m : Memo) (cs : List Value) (a0 c0 a1 c1) (hm : m.At cs (.slice a0 m.trail.length c0) (.slice a1 m.sig.way.length c1)) (w : World) :
    Calls Try.prog 30 #[.agg cs.toArray] w (RightPost w m) := by
  have hS := St.nil w
  have Hm := Lib.hid hm
  clear hm
  go_enter Try.func30, Try.ntmps30
  go_upto_region 1 with (first | ((with_reducible show wpList _ _ _ (Oper.mk _ (Op.box _ _) _ _ _ _ :: _) _ _); refine wpl rfl ?_; refine owp_box hS rfl (vs := cs) rfl ?_; clear hS; intro g _ hS; try simp only [List.cons_append, List.nil_append, List.append_nil, List.set_cons_zero, List.set_cons_succ] at hS))
  go_cut [3] (fun s wr => s = .bool m.bare ∧ St w [] wr [some (g, cs, 60)])
  case first =>
    go_wp2_with (first
      | ((with_reducible show wpList _ _ _ (Oper.mk _ (Op.load _ _) _ _ _ _ :: _) _ _); refine wpl rfl ?_; first
          | refine owp_load1 hS 0 rfl rfl rfl (Hm.out.g0) ?_
          | refine owp_load1 hS 0 rfl rfl rfl (Hm.out.g2) ?_
          | refine owp_load1 hS 0 rfl rfl rfl (Hm.out.g3) ?_
          | refine owp_load1 hS 0 rfl rfl rfl (Hm.out.g6) ?_
          | refine owp_load1 hS 0 rfl rfl rfl (Hm.out.g42) ?_
          | refine owp_load1 hS 0 rfl rfl rfl (Hm.out.g1067) ?_
          | refine owp_load1 hS 0 rfl rfl rfl (Hm.out.g1068) ?_
          | refine owp_load hS 0 rfl rfl rfl (Hm.out.gop) Hm.out.fit.op ?_
          | refine owp_load hS 0 rfl rfl rfl (Hm.out.gl) Hm.out.fit.l ?_)
      | ((with_reducible show wpList _ _ _ (Oper.mk _ (Op.build _ _) _ _ _ _ :: _) _ _); refine wpl rfl ?_; refine owp_build rfl [] rfl (build_opR0 _) ?_)
      | ((with_reducible show wpList _ _ _ (Oper.mk _ (Op.binOp _ _ _ _ _) _ _ _ _ :: _) _ _); refine wpl rfl ?_; refine owp_eql rfl e_opR (by decide) gd_opR rfl rfl (Oop.like _ Hm.out.fit.hash) (Oop.like Oop.zero (zb_length 32)) m.op.eqz (Oop.eqz_iff _ Hm.out.fit.hash) ?_))
    all_goals (go_meet; exact ⟨by simp_all [Memo.bare, natz], hS⟩)
  case rest =>
    clear hS
    obtain ⟨rfl, hS⟩ := hcut
    generalize hb : m.bare = bare
    have Hb := Lib.hid hb
    clear hb
    have Hq := Lib.hid (LSig.eqz_iff m.sig.l Hm.out.fit.shown)
    cases hs0 : (m.op.cond.side == 0)
    all_goals (
      go_wp2_with (first
        | ((with_reducible show wpList _ _ _ (Oper.mk _ (Op.load _ _) _ _ _ _ :: _) _ _); refine wpl rfl ?_; first
            | refine owp_load1 hS 0 rfl rfl rfl (Hm.out.g0) ?_
            | refine owp_load1 hS 0 rfl rfl rfl (Hm.out.g2) ?_
            | refine owp_load1 hS 0 rfl rfl rfl (Hm.out.g3) ?_
            | refine owp_load1 hS 0 rfl rfl rfl (Hm.out.g6) ?_
            | refine owp_load1 hS 0 rfl rfl rfl (Hm.out.g42) ?_
            | refine owp_load1 hS 0 rfl rfl rfl (Hm.out.g1067) ?_
            | refine owp_load1 hS 0 rfl rfl rfl (Hm.out.g1068) ?_
            | refine owp_load hS 0 rfl rfl rfl (Hm.out.gop) Hm.out.fit.op ?_
            | refine owp_load hS 0 rfl rfl rfl (Hm.out.gl) Hm.out.fit.l ?_)
        | ((with_reducible show wpList _ _ _ (Oper.mk _ (Op.build _ _) _ _ _ _ :: _) _ _); refine wpl rfl ?_; refine owp_build rfl [] rfl (build_lsigR0 _) ?_)
        | ((with_reducible show wpList _ _ _ (Oper.mk _ (Op.binOp _ _ _ _ _) _ _ _ _ :: _) _ _); refine wpl rfl ?_; refine owp_eql rfl e_lsigR (by decide) gd_lsigR rfl rfl (LSig.like _ Hm.out.fit.shown Hm.out.fit.other) (LSig.like LSig.zero (zb_length 512) (zb_length 512)) m.sig.l.eqz Hq.out ?_))
      all_goals go_ret
      all_goals (refine ⟨?_, hS.pick [] rfl (by decide)⟩)
      all_goals simp_all [Memo.right, Memo.unsigned, LSig.eqz, Hb.out, natz, le8, le7, lt8, lt7]
      all_goals (try omega))

end Go.Proofs.Ytjgphbdffhmmgaa
