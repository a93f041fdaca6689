/-
  Whether a memo has just what its kind has, as the program says it.
-/
import Derived.Test.YtjgphbdffhmmgaaEqT
import Derived.Test.YtjgphbdffhmmgaaIn10
import Derived.Deep.DeepCutAuto

namespace Go.Proofs.Ytjgphbdffhmmgaa
set_option linter.unusedSimpArgs false
set_option linter.unusedVariables false
open Go Go.RowKit
set_option maxRecDepth 100000
set_option maxHeartbeats 2000000

structure Memo.Fit (m : Memo) : Prop where
  hash : m.op.cond.hash.length = 32
  shown : m.sig.l.shown.length = 512
  other : m.sig.l.other.length = 512
theorem Memo.Fit.op {m : Memo} (h : m.Fit) : m.op.cells.length = 39 := by simp [Oop.cells, Cond.len _ h.hash]
theorem Memo.Fit.l {m : Memo} (h : m.Fit) : m.sig.l.cells.length = 1024 := by simp [LSig.cells, bs_length, h.shown, h.other]
theorem Memo.Fit.len {m : Memo} (h : m.Fit) (tv wv : Value) : (m.cells tv wv).length = 1069 := by simp [Memo.cells, Sig.cells, h.op, h.l]
theorem Memo.g0 (m : Memo) (tv wv : Value) : (m.cells tv wv)[0]? = some (.int .i64 m.kind) := rfl
theorem Memo.g1 (m : Memo) (tv wv : Value) : (m.cells tv wv)[1]? = some (.int .u32 m.channel) := rfl
theorem Memo.g2 (m : Memo) (tv wv : Value) : (m.cells tv wv)[2]? = some (.int .u64 m.round) := rfl
theorem Memo.g3 (m : Memo) (tv wv : Value) : (m.cells tv wv)[3]? = some (.int .i64 m.op.kind) := rfl
theorem Memo.g6 (m : Memo) (tv wv : Value) : (m.cells tv wv)[6]? = some (.int .i64 m.op.cond.side) := rfl
theorem Memo.g42 {m : Memo} (h : m.Fit) (tv wv : Value) : (m.cells tv wv)[42]? = some tv := by
  simp [Memo.cells, List.getElem?_append, h.op]
theorem Memo.g1067 {m : Memo} (h : m.Fit) (tv wv : Value) : (m.cells tv wv)[1067]? = some (.int .u32 m.sig.key) := by
  simp [Memo.cells, Sig.cells, List.getElem?_append, h.op, h.l]
theorem Memo.g1068 {m : Memo} (h : m.Fit) (tv wv : Value) : (m.cells tv wv)[1068]? = some wv := by
  simp [Memo.cells, Sig.cells, List.getElem?_append, h.op, h.l]
theorem Memo.gop {m : Memo} (h : m.Fit) (tv wv : Value) : ((m.cells tv wv).drop 3).take 39 = m.op.cells := by
  simp [Memo.cells, h.op]
theorem Memo.gl {m : Memo} (h : m.Fit) (tv wv : Value) : ((m.cells tv wv).drop 43).take 1024 = m.sig.l.cells := by
  have e : (m.cells tv wv).drop 43 = m.sig.l.cells ++ [.int .u32 m.sig.key, wv] := by
    have e1 : m.cells tv wv = ([.int .i64 m.kind, .int .u32 m.channel, .int .u64 m.round] ++ m.op.cells ++ [tv]) ++ (m.sig.l.cells ++ [.int .u32 m.sig.key, wv]) := by simp [Memo.cells, Sig.cells]
    rw [e1, List.drop_left' (by simp [h.op])]
  rw [e, List.take_left' h.l]
theorem Memo.Fit.zero : Memo.zero.Fit := ⟨zb_length 32, zb_length 512, zb_length 512⟩

instance fld_sig : FieldOK Try.prog 41 0 38 0 := ⟨by kernel_rfl⟩
theorem gd_op : Try.prog.eqGuardType Try.prog.depth 32 = false := by kernel_rfl
theorem gd_lsig : Try.prog.eqGuardType Try.prog.depth 38 = false := by kernel_rfl
theorem sig0_l : ((Sig.zero.cells (.slice none 0 0)).drop 0).take 1024 = LSig.zero.cells := by
  simp [Sig.cells, Sig.zero, lzero_len]

structure Memo.At (m : Memo) (cs : List Value) (tv wv : Value) : Prop where
  eq : cs = m.cells tv wv
  fit : m.Fit
section
variable {m : Memo} {cs : List Value} {tv wv : Value} (h : m.At cs tv wv)
include h
theorem Memo.At.len : cs.length = 1069 := by rw [h.eq]; exact h.fit.len _ _
theorem Memo.At.g0 : cs[0]? = some (.int .i64 m.kind) := by rw [h.eq]; exact Memo.g0 _ _ _
theorem Memo.At.g1 : cs[1]? = some (.int .u32 m.channel) := by rw [h.eq]; exact Memo.g1 _ _ _
theorem Memo.At.g2 : cs[2]? = some (.int .u64 m.round) := by rw [h.eq]; exact Memo.g2 _ _ _
theorem Memo.At.g3 : cs[3]? = some (.int .i64 m.op.kind) := by rw [h.eq]; exact Memo.g3 _ _ _
theorem Memo.At.g6 : cs[6]? = some (.int .i64 m.op.cond.side) := by rw [h.eq]; exact Memo.g6 _ _ _
theorem Memo.At.g42 : cs[42]? = some tv := by rw [h.eq]; exact Memo.g42 h.fit _ _
theorem Memo.At.g1067 : cs[1067]? = some (.int .u32 m.sig.key) := by rw [h.eq]; exact Memo.g1067 h.fit _ _
theorem Memo.At.g1068 : cs[1068]? = some wv := by rw [h.eq]; exact Memo.g1068 h.fit _ _
theorem Memo.At.gop : (cs.drop 3).take 39 = m.op.cells := by rw [h.eq]; exact Memo.gop h.fit _ _
theorem Memo.At.gl : (cs.drop 43).take 1024 = m.sig.l.cells := by rw [h.eq]; exact Memo.gl h.fit _ _
end
theorem natz (n : Nat) : ((n : Int) == 0) = (n == 0) := by cases n <;> rfl
theorem le8 (n : Nat) : ((n : Int) ≤ 8) ↔ n ≤ 8 := by omega
theorem le7 (n : Nat) : ((n : Int) ≤ 7) ↔ n ≤ 7 := by omega
theorem lt8 (n : Nat) : (8 < (n : Int)) ↔ 8 < n := by omega
theorem lt7 (n : Nat) : (7 < (n : Int)) ↔ 7 < n := by omega

def RightPost (w : World) (m : Memo) (e : Ending) (w' : World) : Prop := e = .returned (.bool m.right) ∧ St w [] w' []

theorem right_ok (m : Memo) (cs : List Value) (a0 c0 a1 c1) (hm : m.At cs (.slice a0 m.trail.length c0) (.slice a1 m.sig.way.length c1)) (w : World) :
    Calls Try.prog 25 #[.agg cs.toArray] w (RightPost w m) := by
  have hS := St.nil w
  have Hm := Lib.hid hm
  clear hm
  go_enter Try.func25, Try.ntmps25
  go_upto_region 1 with (first | ((with_reducible show wpList _ _ _ (Oper.mk _ (Op.box _ _) _ _ _ _ :: _) _ _); refine wpl rfl ?_; refine owp_box hS rfl (vs := cs) rfl ?_; clear hS; intro g _ hS; try simp only [List.cons_append, List.nil_append, List.append_nil, List.set_cons_zero, List.set_cons_succ] at hS))
  go_cut [3] (fun s wr => s = .bool m.bare ∧ St w [] wr [some (g, cs, 43)])
  case first =>
    go_wp2_with (first
      | ((with_reducible show wpList _ _ _ (Oper.mk _ (Op.load _ _) _ _ _ _ :: _) _ _); refine wpl rfl ?_; first
          | refine owp_load1 hS 0 rfl rfl rfl (Hm.out.g0) ?_
          | refine owp_load1 hS 0 rfl rfl rfl (Hm.out.g2) ?_
          | refine owp_load1 hS 0 rfl rfl rfl (Hm.out.g3) ?_
          | refine owp_load1 hS 0 rfl rfl rfl (Hm.out.g6) ?_
          | refine owp_load1 hS 0 rfl rfl rfl (Hm.out.g42) ?_
          | refine owp_load1 hS 0 rfl rfl rfl (Hm.out.g1067) ?_
          | refine owp_load1 hS 0 rfl rfl rfl (Hm.out.g1068) ?_
          | refine owp_load hS 0 rfl rfl rfl (Hm.out.gop) Hm.out.fit.op ?_
          | refine owp_load hS 0 rfl rfl rfl (Hm.out.gl) Hm.out.fit.l ?_)
      | ((with_reducible show wpList _ _ _ (Oper.mk _ (Op.build _ _) _ _ _ _ :: _) _ _); refine wpl rfl ?_; refine owp_build rfl [] rfl (build_op0 _) ?_)
      | ((with_reducible show wpList _ _ _ (Oper.mk _ (Op.binOp _ _ _ _ _) _ _ _ _ :: _) _ _); refine wpl rfl ?_; refine owp_eql rfl e_op (by decide) gd_op rfl rfl (Oop.like _ Hm.out.fit.hash) (Oop.like Oop.zero (zb_length 32)) m.op.eqz (Oop.eqz_iff _ Hm.out.fit.hash) ?_))
    all_goals (go_meet; exact ⟨by simp_all [Memo.bare, natz], hS⟩)
  case rest =>
    clear hS
    obtain ⟨rfl, hS⟩ := hcut
    go_upto_region 2 with fail
    go_cut [4] (fun s wr => s = .bool m.unsigned ∧ St w [] wr [some (g, cs, 43)])
    case first =>
      have Hq := Lib.hid (LSig.eqz_iff m.sig.l Hm.out.fit.shown)
      go_wp2_with (first
        | ((with_reducible show wpList _ _ _ (Oper.mk _ (Op.load _ _) _ _ _ _ :: _) _ _); refine wpl rfl ?_; first
            | refine owp_load1 hS 0 rfl rfl rfl (Hm.out.g0) ?_
            | refine owp_load1 hS 0 rfl rfl rfl (Hm.out.g2) ?_
            | refine owp_load1 hS 0 rfl rfl rfl (Hm.out.g3) ?_
            | refine owp_load1 hS 0 rfl rfl rfl (Hm.out.g6) ?_
            | refine owp_load1 hS 0 rfl rfl rfl (Hm.out.g42) ?_
            | refine owp_load1 hS 0 rfl rfl rfl (Hm.out.g1067) ?_
            | refine owp_load1 hS 0 rfl rfl rfl (Hm.out.g1068) ?_
            | refine owp_load hS 0 rfl rfl rfl (Hm.out.gop) Hm.out.fit.op ?_
            | refine owp_load hS 0 rfl rfl rfl (Hm.out.gl) Hm.out.fit.l ?_)
        | ((with_reducible show wpList _ _ _ (Oper.mk _ (Op.build _ _) _ _ _ _ :: _) _ _); refine wpl rfl ?_; refine owp_build rfl [] rfl (build_sig0 _) ?_)
        | ((with_reducible show wpList _ _ _ (Oper.mk _ (Op.field _ _ _) _ _ _ _ :: _) _ _); refine wpl rfl ?_; refine owp_field rfl rfl sig0_l ?_)
        | ((with_reducible show wpList _ _ _ (Oper.mk _ (Op.binOp _ _ _ _ _) _ _ _ _ :: _) _ _); refine wpl rfl ?_; refine owp_eql rfl e_lsig (by decide) gd_lsig rfl rfl (LSig.like _ Hm.out.fit.shown Hm.out.fit.other) (LSig.like LSig.zero (zb_length 512) (zb_length 512)) m.sig.l.eqz Hq.out ?_))
      all_goals (go_meet; exact ⟨by simp_all [Memo.unsigned, LSig.eqz, natz], hS⟩)
    case rest =>
      clear hS
      obtain ⟨rfl, hS⟩ := hcut
      generalize hb : m.bare = bare
      generalize hu : m.unsigned = uns
      have Hb := Lib.hid hb
      have Hu := Lib.hid hu
      clear hb hu
      cases hs0 : (m.op.cond.side == 0)
      all_goals (
        go_wp2_with (first
          | ((with_reducible show wpList _ _ _ (Oper.mk _ (Op.load _ _) _ _ _ _ :: _) _ _); refine wpl rfl ?_; first
              | refine owp_load1 hS 0 rfl rfl rfl (Hm.out.g0) ?_
              | refine owp_load1 hS 0 rfl rfl rfl (Hm.out.g2) ?_
              | refine owp_load1 hS 0 rfl rfl rfl (Hm.out.g3) ?_
              | refine owp_load1 hS 0 rfl rfl rfl (Hm.out.g6) ?_
              | refine owp_load1 hS 0 rfl rfl rfl (Hm.out.g42) ?_
              | refine owp_load1 hS 0 rfl rfl rfl (Hm.out.g1067) ?_
              | refine owp_load1 hS 0 rfl rfl rfl (Hm.out.g1068) ?_
              | refine owp_load hS 0 rfl rfl rfl (Hm.out.gop) Hm.out.fit.op ?_
              | refine owp_load hS 0 rfl rfl rfl (Hm.out.gl) Hm.out.fit.l ?_)
          | fail)
        all_goals go_ret
        all_goals (refine ⟨?_, hS.pick [] rfl (by decide)⟩)
        all_goals simp_all [Memo.right, Hb.out, Hu.out, natz, le8, le7, lt8, lt7]
        all_goals (try omega))

end Go.Proofs.Ytjgphbdffhmmgaa
