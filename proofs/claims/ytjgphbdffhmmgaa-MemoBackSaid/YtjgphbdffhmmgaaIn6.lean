/-
  A payment and a wish, as they are taken off bytes by the program.
-/
import Derived.Test.YtjgphbdffhmmgaaIn5
namespace Go.Proofs.Ytjgphbdffhmmgaa
set_option linter.unusedSimpArgs false
set_option linter.unusedVariables false
open Go Go.RowKit
set_option maxRecDepth 100000
set_option maxHeartbeats 2000000

theorem build_cond (id : Nat) (w : World) : (Instr.build 30 #[(0, .int .u64 id)]).run Try.prog w = .ok (.agg (Cond.cells ⟨id, 0, 0, zb 32, 0⟩).toArray) w := by kernel_rfl
theorem build_op (kind : Int) (amount : Nat) (w : World) : (Instr.build 32 #[(0, .int .i64 kind), (1, .int .u64 amount)]).run Try.prog w = .ok (.agg (Oop.cells ⟨kind, amount, Cond.zero, 0⟩).toArray) w := by kernel_rfl
theorem build_op0 (w : World) : (Instr.build 32 #[]).run Try.prog w = .ok (.agg Oop.zero.cells.toArray) w := by kernel_rfl

theorem Cond.len (c : Cond) (h : c.hash.length = 32) : c.cells.length = 36 := by simp [Cond.cells, bs_length, h]
theorem Cond.one (c : Cond) : ∀ v, v ∈ c.cells → v.oneCell' = true := by
  intro v hv
  simp only [Cond.cells, List.mem_append, List.mem_cons, List.not_mem_nil, or_false] at hv
  rcases hv with ((rfl | rfl | rfl) | h) | rfl
  · rfl
  · rfl
  · rfl
  · exact bs_one _ v h
  · rfl

theorem Cond.lt (c : Cond) (h : c.hash.length = 32) {k : Nat} (hk : k < 36) : k < c.cells.length := by rw [Cond.len c h]; exact hk
theorem Cond.get_side (c : Cond) : c.cells[1]? = some (.int .i64 c.side) := rfl
theorem Cond.set_side (id am ex : Nat) (s x : Int) (h : List UInt8) : (Cond.cells ⟨id, s, am, h, ex⟩).set 1 (.int .i64 x) = Cond.cells ⟨id, x, am, h, ex⟩ := rfl
theorem Cond.set_amount (id am ex : Nat) (s : Int) (x : Nat) (h : List UInt8) : (Cond.cells ⟨id, s, am, h, ex⟩).set 2 (.int .u64 x) = Cond.cells ⟨id, s, x, h, ex⟩ := rfl
theorem Cond.hash_le (c : Cond) (h : c.hash.length = 32) : 3 + 32 ≤ c.cells.length := by rw [Cond.len c h]; omega
theorem Cond.set_hash (id am ex : Nat) (s : Int) (h h' : List UInt8) (hl : h.length = 32) :
    (Cond.cells ⟨id, s, am, h, ex⟩).take 3 ++ bs h' ++ (Cond.cells ⟨id, s, am, h, ex⟩).drop (3 + 32) = Cond.cells ⟨id, s, am, h', ex⟩ := by
  have e : (bs h).length = 32 := by rw [bs_length, hl]
  have e1 : (bs h).drop 32 = [] := List.drop_eq_nil_of_le (by omega)
  simp [Cond.cells, e, e1]
theorem Cond.set_expiry (id am ex : Nat) (s : Int) (h : List UInt8) (x : Nat) (hl : h.length = 32) : (Cond.cells ⟨id, s, am, h, ex⟩).set 35 (.int .u64 x) = Cond.cells ⟨id, s, am, h, x⟩ := by
  have e : (bs h).length = 32 := by rw [bs_length, hl]
  simp [Cond.cells, List.set_append, e]

def CondPost (w : World) (b : Nat) (v : Value) (s : PS) (e : Ending) (w' : World) : Prop :=
  InPost w b v s (.agg (takeCond s).1.cells.toArray) (takeCond s).2 e w'

theorem takeCond_ok (b : Nat) (v : Value) (s : PS) (w : World) (hb : Holds w (inBlk b v s.bad)) (hv : InV w b v s.rest) :
    Calls Try.prog 46 #[.pointer (some ⟨b, 0, none⟩)] w (CondPost w b v s) := by
  have hS := in_start hb
  have hsub := SubV.refl v s.rest
  go_enter Try.func46, Try.ntmps46
  go_wp2_with (first | ((with_reducible show wpList _ _ _ (Oper.mk (some 2) (Op.alloc _) _ _ _ _ :: _) _ _); refine wpl rfl ?_; refine (owp_allocAt hS 2 rfl rfl ?_); clear hS; intro gr _ hS; simp only [List.cons_append, List.nil_append] at hS))
  refine (eight_ok b _ _ _ (hS.get 0 rfl) ((hsub _ _ hv).st hS (.inl rfl))).mono ?_; rintro e w1 ⟨rfl, v2, hc, hsub2⟩; replace hS := hS.call1 0 rfl hc; try simp only [List.cons_append, List.nil_append, List.append_nil, List.set_cons_zero, List.set_cons_succ] at hS; replace hsub := hsub.trans hsub2; clear hc hsub2
  have hz := zb_length 32
  have Hz := Lib.hid hz
  clear hz
  go_wp2_with (first | ((with_reducible show wpList _ _ _ (Oper.mk _ (Op.build _ _) _ _ _ _ :: _) _ _); refine wpl rfl ?_; refine owp_build rfl [(0, .int .u64 _)] rfl (build_cond _ _) ?_) | ((with_reducible show wpList _ _ _ (Oper.mk (some 3) (Op.alloc _) _ _ _ _ :: _) _ _); refine wpl rfl ?_; refine (owp_allocAt hS 3 rfl rfl ?_); clear hS; intro gc _ hS; simp only [List.cons_append, List.nil_append] at hS) | ((with_reducible show wpList _ _ _ (Oper.mk _ (Op.store _ _ _) _ _ _ _ :: _) _ _); refine wpl rfl ?_; refine (owp_storeW hS 2 rfl rfl rfl rfl (Cond.len _ Hz.out) (Cond.len Cond.zero Hz.out) (Cond.one _) ?_); clear hS; intro _ hS; try simp only [List.cons_append, List.nil_append, List.append_nil, List.set_cons_zero, List.set_cons_succ] at hS))
  refine (one_ok b _ _ _ (hS.get 0 rfl) ((hsub _ _ hv).st hS (.inl rfl))).mono ?_; rintro e w1 ⟨rfl, v2, hc, hsub2⟩; replace hS := hS.call1 0 rfl hc; try simp only [List.cons_append, List.nil_append, List.append_nil, List.set_cons_zero, List.set_cons_succ] at hS; replace hsub := hsub.trans hsub2; clear hc hsub2
  have h1 := num1_lt (s.num 8).2
  go_wp2_with (first | ((with_reducible show wpList _ _ _ (Oper.mk _ (Op.store _ _ _) _ _ _ _ :: _) _ _); refine wpl rfl ?_; refine owp_store1 hS 2 rfl rfl rfl rfl rfl (Cond.lt _ Hz.out (by omega)) (Cond.set_side _ _ _ _ _ _) ?_; clear hS; intro _ hS; try simp only [List.cons_append, List.nil_append, List.append_nil, List.set_cons_zero, List.set_cons_succ] at hS))
  refine (eight_ok b _ _ _ (hS.get 0 rfl) ((hsub _ _ hv).st hS (.inl rfl))).mono ?_; rintro e w1 ⟨rfl, v2, hc, hsub2⟩; replace hS := hS.call1 0 rfl hc; try simp only [List.cons_append, List.nil_append, List.append_nil, List.set_cons_zero, List.set_cons_succ] at hS; replace hsub := hsub.trans hsub2; clear hc hsub2
  go_wp2_with (first | ((with_reducible show wpList _ _ _ (Oper.mk _ (Op.store _ _ _) _ _ _ _ :: _) _ _); refine wpl rfl ?_; refine owp_store1 hS 2 rfl rfl rfl rfl rfl (Cond.lt _ Hz.out (by omega)) (Cond.set_amount _ _ _ _ _ _) ?_; clear hS; intro _ hS; try simp only [List.cons_append, List.nil_append, List.append_nil, List.set_cons_zero, List.set_cons_succ] at hS))
  refine (sum_ok b _ _ _ (hS.get 0 rfl) ((hsub _ _ hv).st hS (.inl rfl))).mono ?_; rintro e w1 ⟨rfl, v2, hc, hsub2⟩; replace hS := hS.call1 0 rfl hc; try simp only [List.cons_append, List.nil_append, List.append_nil, List.set_cons_zero, List.set_cons_succ] at hS; replace hsub := hsub.trans hsub2; clear hc hsub2
  have Hl := Lib.hid (sum_len ((((s.num 8).2.num 1).2.num 8).2))
  go_wp2_with (first | ((with_reducible show wpList _ _ _ (Oper.mk _ (Op.store _ _ _) _ _ _ _ :: _) _ _); refine wpl rfl ?_; refine owp_store hS 2 rfl rfl rfl rfl (by rw [bs_length, Hl.out]) (Cond.hash_le _ Hz.out) (bs_one _) (Cond.set_hash _ _ _ _ _ _ Hz.out) ?_; clear hS; intro _ hS; try simp only [List.cons_append, List.nil_append, List.append_nil, List.set_cons_zero, List.set_cons_succ] at hS))
  refine (eight_ok b _ _ _ (hS.get 0 rfl) ((hsub _ _ hv).st hS (.inl rfl))).mono ?_; rintro e w1 ⟨rfl, v2, hc, hsub2⟩; replace hS := hS.call1 0 rfl hc; try simp only [List.cons_append, List.nil_append, List.append_nil, List.set_cons_zero, List.set_cons_succ] at hS; replace hsub := hsub.trans hsub2; clear hc hsub2
  have ht : takeCond s = takeCond s := rfl
  by_cases hside : 1 < ((s.num 8).2.num 1).1
  · have hfin : takeCond s = (⟨(s.num 8).1, ((s.num 8).2.num 1).1, (((s.num 8).2.num 1).2.num 8).1, (((s.num 8).2.num 1).2.num 8).2.sum.1, ((((s.num 8).2.num 1).2.num 8).2.sum.2.num 8).1⟩, (((((s.num 8).2.num 1).2.num 8).2.sum.2.num 8).2.fail 10)) := by
      simp [takeCond, hside]
    have Hfin := Lib.hid hfin
    clear hfin ht
    go_wp2_with (first | ((with_reducible show wpList _ _ _ (Oper.mk _ (Op.store _ _ _) _ _ _ _ :: _) _ _); refine wpl rfl ?_; refine owp_store1 hS 2 rfl rfl rfl rfl rfl (Cond.lt _ Hl.out (by omega)) (Cond.set_expiry _ _ _ _ _ _ Hl.out) ?_; clear hS; intro _ hS; try simp only [List.cons_append, List.nil_append, List.append_nil, List.set_cons_zero, List.set_cons_succ] at hS) | ((with_reducible show wpList _ _ _ (Oper.mk _ (Op.load _ _) _ _ _ _ :: _) _ _); refine wpl rfl ?_; refine owp_load1 hS 2 rfl rfl rfl (Cond.get_side _) ?_))
    refine (fail_ok b _ _ 10 _ (hS.get 0 rfl)).mono ?_; rintro e w1 ⟨rfl, v2, hc, hsub2⟩; replace hS := hS.call1 0 rfl hc; try simp only [List.cons_append, List.nil_append, List.append_nil, List.set_cons_zero, List.set_cons_succ] at hS; replace hsub := hsub.trans hsub2; clear hc hsub2
    go_wp2_with (first | ((with_reducible show wpList _ _ _ (Oper.mk _ (Op.load _ _) _ _ _ _ :: _) _ _); refine wpl rfl ?_; refine (owp_loadW hS 2 rfl rfl rfl (Cond.len _ Hl.out) ?_)) | ((with_reducible show wpList _ _ _ (Oper.mk _ (Op.store _ _ _) _ _ _ _ :: _) _ _); refine wpl rfl ?_; refine (owp_storeW hS 1 rfl rfl rfl rfl (Cond.len _ Hl.out) (Cond.len Cond.zero Hz.out) (Cond.one _) ?_); clear hS; intro _ hS; try simp only [List.cons_append, List.nil_append, List.append_nil, List.set_cons_zero, List.set_cons_succ] at hS))
    (try simp only [Exit.inBlock, Exit.then]); refine bodyPost_ret (res_cell rfl rfl hS 1 rfl (Cond.len _ Hl.out)) rfl ?_
    show InPost w b v s (.agg (takeCond s).1.cells.toArray) (takeCond s).2 _ _
    rw [Hfin.out]
    exact ⟨rfl, _, hS.pick [0] rfl (by decide), hsub⟩
  · have hfin : takeCond s = (⟨(s.num 8).1, ((s.num 8).2.num 1).1, (((s.num 8).2.num 1).2.num 8).1, (((s.num 8).2.num 1).2.num 8).2.sum.1, ((((s.num 8).2.num 1).2.num 8).2.sum.2.num 8).1⟩, (((((s.num 8).2.num 1).2.num 8).2.sum.2.num 8).2)) := by
      simp [takeCond, hside]
    have Hfin := Lib.hid hfin
    clear hfin ht
    go_wp2_with (first | ((with_reducible show wpList _ _ _ (Oper.mk _ (Op.store _ _ _) _ _ _ _ :: _) _ _); refine wpl rfl ?_; refine owp_store1 hS 2 rfl rfl rfl rfl rfl (Cond.lt _ Hl.out (by omega)) (Cond.set_expiry _ _ _ _ _ _ Hl.out) ?_; clear hS; intro _ hS; try simp only [List.cons_append, List.nil_append, List.append_nil, List.set_cons_zero, List.set_cons_succ] at hS) | ((with_reducible show wpList _ _ _ (Oper.mk _ (Op.load _ _) _ _ _ _ :: _) _ _); refine wpl rfl ?_; refine owp_load1 hS 2 rfl rfl rfl (Cond.get_side _) ?_) | ((with_reducible show wpList _ _ _ (Oper.mk _ (Op.load _ _) _ _ _ _ :: _) _ _); refine wpl rfl ?_; refine (owp_loadW hS 2 rfl rfl rfl (Cond.len _ Hl.out) ?_)) | ((with_reducible show wpList _ _ _ (Oper.mk _ (Op.store _ _ _) _ _ _ _ :: _) _ _); refine wpl rfl ?_; refine (owp_storeW hS 1 rfl rfl rfl rfl (Cond.len _ Hl.out) (Cond.len Cond.zero Hz.out) (Cond.one _) ?_); clear hS; intro _ hS; try simp only [List.cons_append, List.nil_append, List.append_nil, List.set_cons_zero, List.set_cons_succ] at hS))
    (try simp only [Exit.inBlock, Exit.then]); refine bodyPost_ret (res_cell rfl rfl hS 1 rfl (Cond.len _ Hl.out)) rfl ?_
    show InPost w b v s (.agg (takeCond s).1.cells.toArray) (takeCond s).2 _ _
    rw [Hfin.out]
    exact ⟨rfl, _, hS.pick [0] rfl (by decide), hsub⟩

end Go.Proofs.Ytjgphbdffhmmgaa
