/-
  Bytes as strings; the law's example.
-/
import Derived.Test.YtjgphbdffhmmgaaOut5
import Derived.Laws.IdiomStrings
namespace Go.Proofs.Ytjgphbdffhmmgaa
set_option linter.unusedSimpArgs false
set_option linter.unusedVariables false
open Go Go.RowKit
set_option maxRecDepth 100000
set_option maxHeartbeats 2000000

theorem run_string {P : Program} {src dst e : TypeId} (hs : P.underlying src = some (.slice e)) (he : P.underlying e = some (.int .u8)) (hd : P.underlying dst = some .string)
    {w : World} {u : Value} {l : List UInt8} (hu : RowR w 1 u l.length (bs l)) : (convert src dst u).run P w = .ok (.string ⟨l.toArray⟩) w := by
  rcases hu.2 with ⟨rfl, h0⟩ | ⟨ad, cap, rfl, hc, hsp, hcells⟩
  · have hl : l = [] := List.eq_nil_of_length_eq_zero h0
    subst hl
    rw [run_convert_bytes_string w src dst e none 0 0 hs he hd]
    simp [Conv.bytesToString]
    rfl
  · refine run_convert_bytes_back w src dst e ad cap l hs he hd (fun j hj => ?_)
    exact hcells j _ (by simp [bs, hj, B])

theorem owp_string {P : Program} {Q : Exit → Act → World → Prop} {K : Act → World → Prop} {a : Act} {w : World} {o : Oper} {src dst e : TypeId} {x : Operand} (ho : o.op = .convert src dst x)
    (hs : P.underlying src = some (.slice e)) (he : P.underlying e = some (.int .u8)) (hd : P.underlying dst = some .string)
    {u : Value} (hx : a.eval x = u) {l : List UInt8} (hu : RowR w 1 u l.length (bs l)) (hk : K (a.put o.dst (.string ⟨l.toArray⟩)) w) : o.wp P a w K Q := by
  refine owp_val (w1 := w) (v := .string ⟨l.toArray⟩) ?_ hk
  unfold execOp
  simp only [ho, hx, run_string hs he hd hu, Sem.run_bind, Sem.run_pure, Result.andThen_ok]

theorem build_memoC (w : World) : (Instr.build 43 #[(1, .int .u32 5)]).run Try.prog w = .ok (.agg (Memo.cells ⟨0, 5, 0, Oop.zero, [], Sig.zero⟩ (.slice none 0 0) (.slice none 0 0)).toArray) w := by kernel_rfl

theorem awake_ok (w : World) : Calls Try.prog 5 #[] w (fun e w' => e = .returned (.bool true) ∧ St w [] w' []) := by
  have hS := St.nil w
  obtain ⟨m, hm⟩ : ∃ m : Memo, m = ⟨0, 5, 0, Oop.zero, [], Sig.zero⟩ := ⟨_, rfl⟩
  have hat : m.At (Memo.cells ⟨0, 5, 0, Oop.zero, [], Sig.zero⟩ (.slice none 0 0) (.slice none 0 0)) (.slice none m.trail.length 0) (.slice none m.sig.way.length 0) := by
    subst hm
    exact ⟨rfl, Memo.Fit.zero'⟩
  have hk : m.kind = 0 := by rw [hm]
  have hr : m.right = true := by rw [hm]; simp [Memo.right, Memo.bare, Memo.unsigned, Oop.eqz, Oop.zero, Cond.eqz, Cond.zero, Sig.zero, LSig.zero]
  have hc : m.channel < 2 ^ 32 := by rw [hm]; simp
  have Hcall := Lib.hid (fun w' => bytesAsk_ok m _ _ _ _ _ hat w' hk hr hc)
  have Hl := Lib.hid (show layHead m = [0, 0, 0, 0, 5] by rw [hm]; decide)
  have Hbuild := Lib.hid build_memoC
  clear hk hr hc
  generalize Memo.cells ⟨0, 5, 0, Oop.zero, [], Sig.zero⟩ (.slice none 0 0) (.slice none 0 0) = cs at *
  go_enter Try.func5, Try.ntmps5
  go_wp2_with (first | ((with_reducible show wpList _ _ _ (Oper.mk _ (Op.build _ _) _ _ _ _ :: _) _ _); refine wpl rfl ?_; refine owp_build rfl [(1, .int .u32 5)] rfl (Hbuild.out _) ?_))
  refine (Hcall.out _).mono ?_
  rintro e w1 ⟨v, x, rfl, hrow, hc⟩
  obtain ⟨a0, c0, rfl⟩ := hrow.isSl
  rw [Hl.out] at hrow
  replace hS := hS.call0 hc
  try simp only [List.cons_append, List.nil_append, List.append_nil, List.set_cons_zero, List.set_cons_succ] at hS
  clear hc
  go_wp2_with (first | ((with_reducible show wpList _ _ _ (Oper.mk _ (Op.convert _ _ _) _ _ _ _ :: _) _ _); refine wpl rfl ?_; refine owp_string rfl Try.underlying22 Try.underlying5 Try.underlying9 rfl (hrow.read (hS.get 0 rfl)) ?_))
  go_ret
  exact ⟨by simp, hS.pick [] rfl (by decide)⟩

end Go.Proofs.Ytjgphbdffhmmgaa
