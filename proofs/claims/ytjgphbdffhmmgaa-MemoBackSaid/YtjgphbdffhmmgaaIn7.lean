/-
  A wish, as it is taken off bytes by the program.
-/
import Derived.Test.YtjgphbdffhmmgaaIn6
namespace Go.Proofs.Ytjgphbdffhmmgaa
set_option linter.unusedSimpArgs false
set_option linter.unusedVariables false
open Go Go.RowKit
set_option maxRecDepth 100000
set_option maxHeartbeats 2000000

theorem takeCond_hash (s : PS) : (takeCond s).1.hash.length = 32 := sum_len _
theorem Oop.len (c : Oop) (h : c.cond.hash.length = 32) : c.cells.length = 39 := by simp [Oop.cells, Cond.len _ h]
theorem Oop.one (c : Oop) : ∀ v, v ∈ c.cells → v.oneCell' = true := by
  intro v hv
  simp only [Oop.cells, List.mem_append, List.mem_cons, List.not_mem_nil, or_false] at hv
  rcases hv with ((rfl | rfl) | h) | rfl
  · rfl
  · rfl
  · exact Cond.one _ v h
  · rfl
theorem Oop.set_id (k : Int) (am id x : Nat) (c : Cond) (hl : c.hash.length = 32) : (Oop.cells ⟨k, am, c, id⟩).set 38 (.int .u64 x) = Oop.cells ⟨k, am, c, x⟩ := by
  simp [Oop.cells, List.set_append, Cond.len _ hl]
theorem Oop.set_cond (k : Int) (am id : Nat) (c c' : Cond) (hl : c.hash.length = 32) :
    (Oop.cells ⟨k, am, c, id⟩).take 2 ++ c'.cells ++ (Oop.cells ⟨k, am, c, id⟩).drop (2 + 36) = Oop.cells ⟨k, am, c', id⟩ := by
  have e := Cond.len _ hl
  have e1 : c.cells.drop 36 = [] := List.drop_eq_nil_of_le (by omega)
  simp [Oop.cells, e, e1]
theorem Oop.lt (c : Oop) (h : c.cond.hash.length = 32) {k : Nat} (hk : k ≤ 39) : k ≤ c.cells.length := by rw [Oop.len c h]; exact hk

def OpPost (w : World) (b : Nat) (v : Value) (s : PS) (e : Ending) (w' : World) : Prop :=
  InPost w b v s (.agg (takeOp s).1.cells.toArray) (takeOp s).2 e w'

theorem takeOp_ok (b : Nat) (v : Value) (s : PS) (w : World) (hb : Holds w (inBlk b v s.bad)) (hv : InV w b v s.rest) :
    Calls Try.prog 22 #[.pointer (some ⟨b, 0, none⟩)] w (OpPost w b v s) := by
  have hS := in_start hb
  have hsub := SubV.refl v s.rest
  have hz := zb_length 32
  have Hz := Lib.hid hz
  clear hz
  go_enter Try.func22, Try.ntmps22
  go_wp2_with (first | ((with_reducible show wpList _ _ _ (Oper.mk (some 2) (Op.alloc _) _ _ _ _ :: _) _ _); refine wpl rfl ?_; refine (owp_allocAt hS 2 rfl rfl ?_); clear hS; intro gr _ hS; simp only [List.cons_append, List.nil_append] at hS))
  refine (one_ok b _ _ _ (hS.get 0 rfl) ((hsub _ _ hv).st hS (.inl rfl))).mono ?_; rintro e w1 ⟨rfl, v2, hc, hsub2⟩; replace hS := hS.call1 0 rfl hc; try simp only [List.cons_append, List.nil_append, List.append_nil, List.set_cons_zero, List.set_cons_succ] at hS; replace hsub := hsub.trans hsub2; clear hc hsub2
  have h1 := num1_lt s
  go_wp2_with fail
  refine (eight_ok b _ _ _ (hS.get 0 rfl) ((hsub _ _ hv).st hS (.inl rfl))).mono ?_; rintro e w1 ⟨rfl, v2, hc, hsub2⟩; replace hS := hS.call1 0 rfl hc; try simp only [List.cons_append, List.nil_append, List.append_nil, List.set_cons_zero, List.set_cons_succ] at hS; replace hsub := hsub.trans hsub2; clear hc hsub2
  go_wp2_with (first | ((with_reducible show wpList _ _ _ (Oper.mk _ (Op.build _ _) _ _ _ _ :: _) _ _); refine wpl rfl ?_; refine owp_build rfl [(0, .int .i64 _), (1, .int .u64 _)] rfl (build_op _ _ _) ?_) | ((with_reducible show wpList _ _ _ (Oper.mk (some 3) (Op.alloc _) _ _ _ _ :: _) _ _); refine wpl rfl ?_; refine (owp_allocAt hS 3 rfl rfl ?_); clear hS; intro gc _ hS; simp only [List.cons_append, List.nil_append] at hS) | ((with_reducible show wpList _ _ _ (Oper.mk _ (Op.store _ _ _) _ _ _ _ :: _) _ _); refine wpl rfl ?_; refine (owp_storeW hS 2 rfl rfl rfl rfl (Oop.len _ Hz.out) (Oop.len Oop.zero Hz.out) (Oop.one _) ?_); clear hS; intro _ hS; try simp only [List.cons_append, List.nil_append, List.append_nil, List.set_cons_zero, List.set_cons_succ] at hS))
  refine (eight_ok b _ _ _ (hS.get 0 rfl) ((hsub _ _ hv).st hS (.inl rfl))).mono ?_; rintro e w1 ⟨rfl, v2, hc, hsub2⟩; replace hS := hS.call1 0 rfl hc; try simp only [List.cons_append, List.nil_append, List.append_nil, List.set_cons_zero, List.set_cons_succ] at hS; replace hsub := hsub.trans hsub2; clear hc hsub2
  go_wp2_with (first | ((with_reducible show wpList _ _ _ (Oper.mk _ (Op.store _ _ _) _ _ _ _ :: _) _ _); refine wpl rfl ?_; refine owp_store1 hS 2 rfl rfl rfl rfl rfl (Oop.lt _ Hz.out (by omega)) (Oop.set_id _ _ _ _ _ Hz.out) ?_; clear hS; intro _ hS; try simp only [List.cons_append, List.nil_append, List.append_nil, List.set_cons_zero, List.set_cons_succ] at hS))
  refine (takeCond_ok b _ _ _ (hS.get 0 rfl) ((hsub _ _ hv).st hS (.inl rfl))).mono ?_; rintro e w1 ⟨rfl, v2, hc, hsub2⟩; replace hS := hS.call1 0 rfl hc; try simp only [List.cons_append, List.nil_append, List.append_nil, List.set_cons_zero, List.set_cons_succ] at hS; replace hsub := hsub.trans hsub2; clear hc hsub2
  have Hh := Lib.hid (takeCond_hash (((s.num 1).2.num 8).2.num 8).2)
  go_wp2_with (first | ((with_reducible show wpList _ _ _ (Oper.mk _ (Op.store _ _ _) _ _ _ _ :: _) _ _); refine wpl rfl ?_; refine owp_store hS 2 rfl rfl rfl rfl (Cond.len _ Hh.out) (Oop.lt _ Hz.out (by omega)) (Cond.one _) (Oop.set_cond _ _ _ _ _ Hz.out) ?_; clear hS; intro _ hS; try simp only [List.cons_append, List.nil_append, List.append_nil, List.set_cons_zero, List.set_cons_succ] at hS))
  refine (bad_ok b _ _ _ (hS.get 0 rfl)).mono ?_
  rintro e w1 ⟨rfl, rfl⟩
  have ht : takeOp s = (if (takeCond (((s.num 1).2.num 8).2.num 8).2).2.bad ≠ 0 then Oop.zero else ⟨(s.num 1).1, ((s.num 1).2.num 8).1, (takeCond (((s.num 1).2.num 8).2.num 8).2).1, (((s.num 1).2.num 8).2.num 8).1⟩, (takeCond (((s.num 1).2.num 8).2.num 8).2).2) := rfl
  have Ht := Lib.hid ht
  clear ht
  have hpost : ∀ w', InPost w b v s (.agg (takeOp s).1.cells.toArray) (takeOp s).2 (.returned (.agg (takeOp s).1.cells.toArray)) w' → OpPost w b v s (.returned (.agg (takeOp s).1.cells.toArray)) w' := fun _ h => h
  clear hpost
  by_cases hbad : (takeCond (((s.num 1).2.num 8).2.num 8).2).2.bad = 0
  · have hb1 : ((takeCond (((s.num 1).2.num 8).2.num 8).2).2.bad != 0) = false := by simpa using hbad
    have Hbad := Lib.hid hbad
    clear hbad
    go_wp2_with (first | ((with_reducible show wpList _ _ _ (Oper.mk _ (Op.load _ _) _ _ _ _ :: _) _ _); refine wpl rfl ?_; refine (owp_loadW hS 2 rfl rfl rfl (Oop.len _ Hh.out) ?_)) | ((with_reducible show wpList _ _ _ (Oper.mk _ (Op.store _ _ _) _ _ _ _ :: _) _ _); refine wpl rfl ?_; refine (owp_storeW hS 1 rfl rfl rfl rfl (Oop.len _ Hh.out) (Oop.len Oop.zero Hz.out) (Oop.one _) ?_); clear hS; intro _ hS; try simp only [List.cons_append, List.nil_append, List.append_nil, List.set_cons_zero, List.set_cons_succ] at hS))
    (try simp only [Exit.inBlock, Exit.then]); refine bodyPost_ret (res_cell rfl rfl hS 1 rfl (Oop.len _ Hh.out)) rfl ?_
    show InPost w b v s (.agg (takeOp s).1.cells.toArray) (takeOp s).2 _ _
    rw [Ht.out, if_neg (by simpa using Hbad.out)]
    exact ⟨rfl, _, hS.pick [0] rfl (by decide), hsub⟩
  · have hb1 : ((takeCond (((s.num 1).2.num 8).2.num 8).2).2.bad != 0) = true := by simpa using hbad
    have Hbad := Lib.hid hbad
    clear hbad
    go_wp2_with (first | ((with_reducible show wpList _ _ _ (Oper.mk _ (Op.build _ _) _ _ _ _ :: _) _ _); refine wpl rfl ?_; refine owp_build rfl [] rfl (build_op0 _) ?_) | ((with_reducible show wpList _ _ _ (Oper.mk _ (Op.store _ _ _) _ _ _ _ :: _) _ _); refine wpl rfl ?_; refine (owp_storeW hS 1 rfl rfl rfl rfl (Oop.len Oop.zero Hz.out) (Oop.len Oop.zero Hz.out) (Oop.one _) ?_); clear hS; intro _ hS; try simp only [List.cons_append, List.nil_append, List.append_nil, List.set_cons_zero, List.set_cons_succ] at hS))
    (try simp only [Exit.inBlock, Exit.then]); refine bodyPost_ret (res_cell rfl rfl hS 1 rfl (Oop.len Oop.zero Hz.out)) rfl ?_
    show InPost w b v s (.agg (takeOp s).1.cells.toArray) (takeOp s).2 _ _
    rw [Ht.out, if_pos (by simpa using Hbad.out)]
    exact ⟨rfl, _, hS.pick [0] rfl (by decide), hsub⟩

end Go.Proofs.Ytjgphbdffhmmgaa
