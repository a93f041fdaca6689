/-
  What the program's reader of bytes does: sums.
-/
import Derived.Test.YtjgphbdffhmmgaaFill
import Derived.Deep.RegionLaw
namespace Go.Proofs.Ytjgphbdffhmmgaa
set_option linter.unusedSimpArgs false
set_option linter.unusedVariables false
open Go Go.RowKit
set_option maxRecDepth 100000

theorem pad_length (n : Nat) (l : List UInt8) (h : l.length ≤ n) : (pad n l).length = n := by simp [pad]; omega
theorem sum_len (s : PS) : s.sum.1.length = 32 := by
  unfold PS.sum
  apply pad_length
  rcases cut_len 32 s with h | h <;> rw [h] <;> simp

theorem pad_cells (n : Nat) (l : List UInt8) : (bs (zb n)).take 0 ++ bs l ++ (bs (zb n)).drop (0 + l.length) = bs (pad n l) := by simp [pad, bs, zb]

theorem sum_ok (b : Nat) (v : Value) (s : PS) (w : World) (hb : Holds w (inBlk b v s.bad)) (hv : InV w b v s.rest) :
    Calls Try.prog 48 #[.pointer (some ⟨b, 0, none⟩)] w (InPost w b v s (.agg (bs s.sum.1).toArray) s.sum.2) := by
  have hS := in_start hb
  go_enter Try.func48, Try.ntmps48
  go_wp2_with (first | ((with_reducible show wpList _ _ _ (Oper.mk (some 2) (Op.alloc _) _ _ _ _ :: _) _ _); refine wpl rfl ?_; refine (owp_allocAt hS 2 rfl rfl ?_); clear hS; intro gr _ hS; simp only [List.cons_append, List.nil_append] at hS) | ((with_reducible show wpList _ _ _ (Oper.mk (some 3) (Op.alloc _) _ _ _ _ :: _) _ _); refine wpl rfl ?_; refine (owp_allocAt hS 3 rfl rfl ?_); clear hS; intro gd _ hS; simp only [List.cons_append, List.nil_append] at hS))
  simp only [Act.put, List.setIfInBounds_toArray, List.set_cons_succ, List.set_cons_zero]
  have hl : (s.cut 32).1.length ≤ 32 := by rcases cut_len 32 s with h | h <;> rw [h] <;> simp
  have hc := cut_ok 32 (by omega) (by omega) b v s _ (hS.drew.get 0 rfl) (hv.st hS.drew (.inl rfl))
  have tok : True := trivial
  go_region_law (first | (have _t := tok; refine rstep rfl (owp_call rfl (by kernel_rfl) rfl hc ?_); clear tok _t; rintro e w' ⟨p, v', rfl, hc, hsub, hp⟩; replace hp := (hp.st hc (.inl rfl)).read; replace hS := hS.drew.call1 0 rfl hc; simp only [List.set_cons_zero, List.append_nil] at hS; clear hc; refine ⟨_, rfl, ?_⟩) | (refine rstep rfl (owp_copy hS 2 rfl rfl rfl rfl hp (bs_one _) hl (by simpa [bs_length, zb] using hl) rfl ?_); clear hS; intro w'' hS; simp only [List.set_cons_zero, List.set_cons_succ] at hS))
  have hcells : (bs (zb 32)).take 0 ++ bs (s.cut 32).1 ++ (bs (zb 32)).drop (0 + (s.cut 32).1.length) = bs s.sum.1 := pad_cells 32 _
  rw [hcells] at hS
  have hlen : (bs s.sum.1).length = 32 := by rw [bs_length, sum_len]
  have hz : (bs (zb 32)).length = 32 := by simp [bs_length, zb]
  have Hlen := Lib.hid hlen
  have Hz := Lib.hid hz
  clear hlen hcells hp hz
  go_wp2_with (first | ((with_reducible show wpList _ _ _ (Oper.mk _ (Op.load _ _) _ _ _ _ :: _) _ _); refine wpl rfl ?_; refine (owp_loadW hS 2 rfl rfl rfl (Hlen.out) ?_)) | ((with_reducible show wpList _ _ _ (Oper.mk _ (Op.store _ _ _) _ _ _ _ :: _) _ _); refine wpl rfl ?_; refine (owp_storeW hS 1 rfl rfl rfl rfl (Hlen.out) (Hz.out) (bs_one _) ?_); clear hS; intro _ hS; try simp only [List.cons_append, List.nil_append, List.append_nil, List.set_cons_zero, List.set_cons_succ] at hS))
  (try simp only [Exit.inBlock, Exit.then]); refine bodyPost_ret (res_cell rfl rfl hS 1 rfl (Hlen.out)) rfl ?_
  exact ⟨rfl, v', hS.pick [0] rfl (by decide), hsub⟩

set_option maxHeartbeats 400000 in
/-- A reader of bytes that are known. -/
theorem of_ok (u : Value) (l : List UInt8) (w : World) (hu : RowR w 1 u l.length (bs l)) (hl : l.length ≤ 1000000) :
    Calls Try.prog 8 #[u] w fun e w' => ∃ b v, e = .returned (.pointer (some ⟨b, 0, none⟩)) ∧ St w [] w' [inBlk b v 0] ∧ InV w' b v l := by
  have hS := St.nil w
  go_enter Try.func8, Try.ntmps8
  have hl63 : 0 + l.length ≤ maxLen := by unfold maxLen; omega
  have hlb : (0 + l.length) * 1 ≤ 140737488355328 := by omega
  go_wp2_with (first | ((with_reducible show wpList _ _ _ (Oper.mk _ (Op.buildSlice _ _ _) _ _ _ _ :: _) _ _); refine wpl rfl ?_; refine (owp_bslice0 hS rfl ?_); clear hS; intro g0 w1 hS; try simp only [List.cons_append, List.nil_append, List.append_nil, List.set_cons_zero, List.set_cons_succ] at hS) | ((with_reducible show wpList _ _ _ (Oper.mk _ (Op.call (Call.mk (Callee.builtin Builtin.append) _ _)) _ _ _ _ :: _) _ _); refine wpl rfl ?_; refine (owp_append hS 0 rfl rfl rfl (RowV.lit 5 1 _ 0 [] rfl (Nat.zero_le _)) rfl (hu.st0 hS) (bs_one _) hl63 hlb ?_); clear hS; intro v' x' w2 hv' hS hnil; obtain ⟨g1, cap, sp, rfl, rfl, hlx, hcap, hcm⟩ := hv'.whole (hnil (.inr (by simp [Act.eval]))); clear hnil hv'; try simp only [List.cons_append, List.nil_append, List.append_nil, List.set_cons_zero, List.set_cons_succ] at hS) | ((with_reducible show wpList _ _ _ (Oper.mk _ (Op.box _ _) _ _ _ _ :: _) _ _); refine wpl rfl ?_; refine (owp_box hS rfl (vs := [_, _]) rfl ?_); clear hS; intro b w3 hS; try simp only [List.cons_append, List.nil_append, List.append_nil, List.set_cons_zero, List.set_cons_succ] at hS))
  go_ret
  refine ⟨_, _, rfl, hS.pick [1] rfl (by decide), .inr ⟨g1, 0, cap, _, _, _, by simp, by simpa using hcap, hcm, ?_, hS.get 0 rfl _ _ _ rfl, by simp [bs_length]⟩⟩
  rintro rfl
  have := nodup_other hS.nodup (i := 0) (j := 1) rfl rfl
  omega

end Go.Proofs.Ytjgphbdffhmmgaa
