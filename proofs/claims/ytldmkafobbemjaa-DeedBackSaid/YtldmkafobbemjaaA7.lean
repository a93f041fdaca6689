/-
  A payment and a wish, as they are taken off bytes by the document.
  A trail, as it is taken off bytes by the document.
-/
import Derived.Test.YtldmkafobbemjaaA6
namespace Go.Proofs.Ytldmkafobbemjaa
set_option linter.unusedSimpArgs false
set_option linter.unusedVariables false
open Go Go.RowKit
set_option maxRecDepth 100000
set_option maxHeartbeats 2000000

theorem Cond.set_id (x id am ex : Nat) (s : Int) (h : List UInt8) : (Cond.cells ⟨id, s, am, h, ex⟩).set 0 (.int .u64 x) = Cond.cells ⟨x, s, am, h, ex⟩ := rfl
theorem Oop.set_kind (x k : Int) (am id : Nat) (c : Cond) : (Oop.cells ⟨k, am, c, id⟩).set 0 (.int .i64 x) = Oop.cells ⟨x, am, c, id⟩ := rfl
theorem Oop.set_amount (x : Nat) (k : Int) (am id : Nat) (c : Cond) : (Oop.cells ⟨k, am, c, id⟩).set 1 (.int .u64 x) = Oop.cells ⟨k, x, c, id⟩ := rfl
theorem Oop.lt' (c : Oop) (h : c.cond.hash.length = 32) {k : Nat} (hk : k < 39) : k < c.cells.length := by rw [Oop.len c h]; exact hk

theorem build_opR0 (w : World) : (Instr.build 93 #[]).run Try.prog w = .ok (.agg Oop.zero.cells.toArray) w := by kernel_rfl

def RCondPost (w : World) (b : Nat) (u : Value) (l : List UInt8) (s : PS) (e : Ending) (w' : World) : Prop :=
  RPost w b u l (.agg (takeCond s).1.cells.toArray) (takeCond s).2 e w'
def ROpPost (w : World) (b : Nat) (u : Value) (l : List UInt8) (s : PS) (e : Ending) (w' : World) : Prop :=
  RPost w b u l (.agg (takeOp s).1.cells.toArray) (takeOp s).2 e w'


theorem rtakeCond_ok (b : Nat) (u : Value) (l : List UInt8) (at' : Nat) (s : PS) (w : World) (hb : Holds w (rfBlk b u at' s.bad)) (hu : URd w b u l) (hat : RAt l at' s) :
    Calls Try.prog 44 #[.pointer (some ⟨b, 0, none⟩)] w (RCondPost w b u l s) := by
  have hS := rf_start hb
  have hz := zb_length 32
  have Hz := Lib.hid hz
  clear hz
  go_enter Try.func44, Try.ntmps44
  go_wp2_with (first | ((with_reducible show wpList _ _ _ (Oper.mk (some 2) (Op.alloc _) _ _ _ _ :: _) _ _); refine wpl rfl ?_; refine (owp_allocAt hS 2 rfl rfl ?_); clear hS; intro gr _ hS; simp only [List.cons_append, List.nil_append] at hS) | ((with_reducible show wpList _ _ _ (Oper.mk (some 3) (Op.alloc _) _ _ _ _ :: _) _ _); refine wpl rfl ?_; refine (owp_allocAt hS 3 rfl rfl ?_); clear hS; intro gc _ hS; simp only [List.cons_append, List.nil_append] at hS))
  refine (rnum_ok 8 (by omega) (by omega) b u l _ _ _ (hS.get 0 rfl) (hu.st hS) hat).mono ?_; rintro e w1 ⟨rfl, at2, hc, hat2⟩; replace hS := hS.call1 0 rfl hc; try simp only [List.cons_append, List.nil_append, List.append_nil, List.set_cons_zero, List.set_cons_succ] at hS; clear hc hat; have hat := hat2; clear hat2
  go_wp2_with (first | ((with_reducible show wpList _ _ _ (Oper.mk _ (Op.store _ _ _) _ _ _ _ :: _) _ _); refine wpl rfl ?_; refine owp_store1 hS 2 rfl rfl rfl rfl rfl (Cond.lt _ Hz.out (by omega)) (Cond.set_id _ _ _ _ _ _) ?_; clear hS; intro _ hS; try simp only [List.cons_append, List.nil_append, List.append_nil, List.set_cons_zero, List.set_cons_succ] at hS))
  refine (rnum_ok 1 (by omega) (by omega) b u l _ _ _ (hS.get 0 rfl) (hu.st hS) hat).mono ?_; rintro e w1 ⟨rfl, at2, hc, hat2⟩; replace hS := hS.call1 0 rfl hc; try simp only [List.cons_append, List.nil_append, List.append_nil, List.set_cons_zero, List.set_cons_succ] at hS; clear hc hat; have hat := hat2; clear hat2
  have h1 := num1_lt (s.num 8).2
  go_wp2_with (first | ((with_reducible show wpList _ _ _ (Oper.mk _ (Op.store _ _ _) _ _ _ _ :: _) _ _); refine wpl rfl ?_; refine owp_store1 hS 2 rfl rfl rfl rfl rfl (Cond.lt _ Hz.out (by omega)) (Cond.set_side _ _ _ _ _ _) ?_; clear hS; intro _ hS; try simp only [List.cons_append, List.nil_append, List.append_nil, List.set_cons_zero, List.set_cons_succ] at hS))
  refine (rnum_ok 8 (by omega) (by omega) b u l _ _ _ (hS.get 0 rfl) (hu.st hS) hat).mono ?_; rintro e w1 ⟨rfl, at2, hc, hat2⟩; replace hS := hS.call1 0 rfl hc; try simp only [List.cons_append, List.nil_append, List.append_nil, List.set_cons_zero, List.set_cons_succ] at hS; clear hc hat; have hat := hat2; clear hat2
  go_wp2_with (first | ((with_reducible show wpList _ _ _ (Oper.mk _ (Op.store _ _ _) _ _ _ _ :: _) _ _); refine wpl rfl ?_; refine owp_store1 hS 2 rfl rfl rfl rfl rfl (Cond.lt _ Hz.out (by omega)) (Cond.set_amount _ _ _ _ _ _) ?_; clear hS; intro _ hS; try simp only [List.cons_append, List.nil_append, List.append_nil, List.set_cons_zero, List.set_cons_succ] at hS))
  refine (rsum_ok b u l _ _ _ (hS.get 0 rfl) (hu.st hS) hat).mono ?_; rintro e w1 ⟨rfl, at2, hc, hat2⟩; replace hS := hS.call1 0 rfl hc; try simp only [List.cons_append, List.nil_append, List.append_nil, List.set_cons_zero, List.set_cons_succ] at hS; clear hc hat; have hat := hat2; clear hat2
  have Hl := Lib.hid (sum_len ((((s.num 8).2.num 1).2.num 8).2))
  go_wp2_with (first | ((with_reducible show wpList _ _ _ (Oper.mk _ (Op.store _ _ _) _ _ _ _ :: _) _ _); refine wpl rfl ?_; refine owp_store hS 2 rfl rfl rfl rfl (by rw [bs_length, Hl.out]) (Cond.hash_le _ Hz.out) (bs_one _) (Cond.set_hash _ _ _ _ _ _ Hz.out) ?_; clear hS; intro _ hS; try simp only [List.cons_append, List.nil_append, List.append_nil, List.set_cons_zero, List.set_cons_succ] at hS))
  refine (rnum_ok 8 (by omega) (by omega) b u l _ _ _ (hS.get 0 rfl) (hu.st hS) hat).mono ?_; rintro e w1 ⟨rfl, at2, hc, hat2⟩; replace hS := hS.call1 0 rfl hc; try simp only [List.cons_append, List.nil_append, List.append_nil, List.set_cons_zero, List.set_cons_succ] at hS; clear hc hat; have hat := hat2; clear hat2
  have ht : takeCond s = (⟨(s.num 8).1, ((s.num 8).2.num 1).1, (((s.num 8).2.num 1).2.num 8).1, (((s.num 8).2.num 1).2.num 8).2.sum.1, ((((s.num 8).2.num 1).2.num 8).2.sum.2.num 8).1⟩, if 1 < ((s.num 8).2.num 1).1 then (((((s.num 8).2.num 1).2.num 8).2.sum.2.num 8).2.fail 10) else ((((s.num 8).2.num 1).2.num 8).2.sum.2.num 8).2) := rfl
  have Ht := Lib.hid ht
  clear ht
  generalize (s.num 8).1 = v1 at *
  generalize ((s.num 8).2.num 1).1 = v2 at *
  generalize (((s.num 8).2.num 1).2.num 8).1 = v3 at *
  generalize (((s.num 8).2.num 1).2.num 8).2.sum.1 = v4 at *
  generalize ((((s.num 8).2.num 1).2.num 8).2.sum.2.num 8).1 = v5 at *
  generalize ((((s.num 8).2.num 1).2.num 8).2.sum.2.num 8).2 = s5 at *
  by_cases hside : 1 < v2
  · have hs1 : (1 : Int) < (v2 : Int) := by omega
    by_cases hbad : s5.bad = 0
    · have Hfin := Lib.hid (show takeCond s = (⟨v1, v2, v3, v4, v5⟩, ⟨[], 10⟩) by rw [Ht.out, if_pos hside]; simp [PS.fail, hbad])
      have hb1 : (s5.bad == 0) = true := by simpa using hbad
      clear hbad hside
      go_wp2_with (first | ((with_reducible show wpList _ _ _ (Oper.mk _ (Op.store _ _ _) _ _ _ _ :: _) _ _); refine wpl rfl ?_; refine owp_store1 hS 2 rfl rfl rfl rfl rfl (Cond.lt _ Hl.out (by omega)) (Cond.set_expiry _ _ _ _ _ _ Hl.out) ?_; clear hS; intro _ hS; try simp only [List.cons_append, List.nil_append, List.append_nil, List.set_cons_zero, List.set_cons_succ] at hS) | ((with_reducible show wpList _ _ _ (Oper.mk _ (Op.load _ _) _ _ _ _ :: _) _ _); refine wpl rfl ?_; refine owp_load1 hS 2 rfl rfl rfl (Cond.get_side _) ?_) | ((with_reducible show wpList _ _ _ (Oper.mk _ (Op.load _ _) _ _ _ _ :: _) _ _); refine wpl rfl ?_; refine (owp_load1 hS 0 rfl rfl rfl rfl ?_)) | ((with_reducible show wpList _ _ _ (Oper.mk _ (Op.store _ _ _) _ _ _ _ :: _) _ _); refine wpl rfl ?_; refine (owp_store1 hS 0 rfl rfl rfl rfl rfl (by simp) rfl ?_); clear hS; intro _ hS; try simp [Act.eval] at hS) | ((with_reducible show wpList _ _ _ (Oper.mk _ (Op.load _ _) _ _ _ _ :: _) _ _); refine wpl rfl ?_; refine (owp_loadW hS 2 rfl rfl rfl (Cond.len _ Hl.out) ?_)) | ((with_reducible show wpList _ _ _ (Oper.mk _ (Op.store _ _ _) _ _ _ _ :: _) _ _); refine wpl rfl ?_; refine (owp_storeW hS 1 rfl rfl rfl rfl (Cond.len _ Hl.out) (Cond.len Cond.zero Hz.out) (Cond.one _) ?_); clear hS; intro _ hS; try simp only [List.cons_append, List.nil_append, List.append_nil, List.set_cons_zero, List.set_cons_succ] at hS))
      (try simp only [Exit.inBlock, Exit.then]); refine bodyPost_ret (res_cell rfl rfl hS 1 rfl (Cond.len _ Hl.out)) rfl ?_
      show RPost w b u l (.agg (takeCond s).1.cells.toArray) (takeCond s).2 _ _
      rw [Hfin.out]
      exact ⟨rfl, at2, hS.pick [0] rfl (by decide), hat.1, fun h => by cases h⟩
    · have Hfin := Lib.hid (show takeCond s = (⟨v1, v2, v3, v4, v5⟩, s5) by rw [Ht.out, if_pos hside]; simp [PS.fail, hbad])
      have hb1 : (s5.bad == 0) = false := by simpa using hbad
      clear hbad hside
      go_wp2_with (first | ((with_reducible show wpList _ _ _ (Oper.mk _ (Op.store _ _ _) _ _ _ _ :: _) _ _); refine wpl rfl ?_; refine owp_store1 hS 2 rfl rfl rfl rfl rfl (Cond.lt _ Hl.out (by omega)) (Cond.set_expiry _ _ _ _ _ _ Hl.out) ?_; clear hS; intro _ hS; try simp only [List.cons_append, List.nil_append, List.append_nil, List.set_cons_zero, List.set_cons_succ] at hS) | ((with_reducible show wpList _ _ _ (Oper.mk _ (Op.load _ _) _ _ _ _ :: _) _ _); refine wpl rfl ?_; refine owp_load1 hS 2 rfl rfl rfl (Cond.get_side _) ?_) | ((with_reducible show wpList _ _ _ (Oper.mk _ (Op.load _ _) _ _ _ _ :: _) _ _); refine wpl rfl ?_; refine (owp_load1 hS 0 rfl rfl rfl rfl ?_)) | ((with_reducible show wpList _ _ _ (Oper.mk _ (Op.load _ _) _ _ _ _ :: _) _ _); refine wpl rfl ?_; refine (owp_loadW hS 2 rfl rfl rfl (Cond.len _ Hl.out) ?_)) | ((with_reducible show wpList _ _ _ (Oper.mk _ (Op.store _ _ _) _ _ _ _ :: _) _ _); refine wpl rfl ?_; refine (owp_storeW hS 1 rfl rfl rfl rfl (Cond.len _ Hl.out) (Cond.len Cond.zero Hz.out) (Cond.one _) ?_); clear hS; intro _ hS; try simp only [List.cons_append, List.nil_append, List.append_nil, List.set_cons_zero, List.set_cons_succ] at hS))
      (try simp only [Exit.inBlock, Exit.then]); refine bodyPost_ret (res_cell rfl rfl hS 1 rfl (Cond.len _ Hl.out)) rfl ?_
      show RPost w b u l (.agg (takeCond s).1.cells.toArray) (takeCond s).2 _ _
      rw [Hfin.out]
      exact ⟨rfl, at2, hS.pick [0] rfl (by decide), hat⟩
  · have hs1 : (v2 : Int) ≤ 1 := by omega
    have Hfin := Lib.hid (show takeCond s = (⟨v1, v2, v3, v4, v5⟩, s5) by rw [Ht.out, if_neg hside])
    clear hside
    go_wp2_with (first | ((with_reducible show wpList _ _ _ (Oper.mk _ (Op.store _ _ _) _ _ _ _ :: _) _ _); refine wpl rfl ?_; refine owp_store1 hS 2 rfl rfl rfl rfl rfl (Cond.lt _ Hl.out (by omega)) (Cond.set_expiry _ _ _ _ _ _ Hl.out) ?_; clear hS; intro _ hS; try simp only [List.cons_append, List.nil_append, List.append_nil, List.set_cons_zero, List.set_cons_succ] at hS) | ((with_reducible show wpList _ _ _ (Oper.mk _ (Op.load _ _) _ _ _ _ :: _) _ _); refine wpl rfl ?_; refine owp_load1 hS 2 rfl rfl rfl (Cond.get_side _) ?_) | ((with_reducible show wpList _ _ _ (Oper.mk _ (Op.load _ _) _ _ _ _ :: _) _ _); refine wpl rfl ?_; refine (owp_loadW hS 2 rfl rfl rfl (Cond.len _ Hl.out) ?_)) | ((with_reducible show wpList _ _ _ (Oper.mk _ (Op.store _ _ _) _ _ _ _ :: _) _ _); refine wpl rfl ?_; refine (owp_storeW hS 1 rfl rfl rfl rfl (Cond.len _ Hl.out) (Cond.len Cond.zero Hz.out) (Cond.one _) ?_); clear hS; intro _ hS; try simp only [List.cons_append, List.nil_append, List.append_nil, List.set_cons_zero, List.set_cons_succ] at hS))
    (try simp only [Exit.inBlock, Exit.then]); refine bodyPost_ret (res_cell rfl rfl hS 1 rfl (Cond.len _ Hl.out)) rfl ?_
    show RPost w b u l (.agg (takeCond s).1.cells.toArray) (takeCond s).2 _ _
    rw [Hfin.out]
    exact ⟨rfl, at2, hS.pick [0] rfl (by decide), hat⟩

theorem rtakeOp_ok (b : Nat) (u : Value) (l : List UInt8) (at' : Nat) (s : PS) (w : World) (hb : Holds w (rfBlk b u at' s.bad)) (hu : URd w b u l) (hat : RAt l at' s) :
    Calls Try.prog 23 #[.pointer (some ⟨b, 0, none⟩)] w (ROpPost w b u l s) := by
  have hS := rf_start hb
  have hz := zb_length 32
  have Hz := Lib.hid hz
  clear hz
  go_enter Try.func23, Try.ntmps23
  go_wp2_with (first | ((with_reducible show wpList _ _ _ (Oper.mk (some 2) (Op.alloc _) _ _ _ _ :: _) _ _); refine wpl rfl ?_; refine (owp_allocAt hS 2 rfl rfl ?_); clear hS; intro gr _ hS; simp only [List.cons_append, List.nil_append] at hS) | ((with_reducible show wpList _ _ _ (Oper.mk (some 3) (Op.alloc _) _ _ _ _ :: _) _ _); refine wpl rfl ?_; refine (owp_allocAt hS 3 rfl rfl ?_); clear hS; intro gc _ hS; simp only [List.cons_append, List.nil_append] at hS))
  refine (rnum_ok 1 (by omega) (by omega) b u l _ _ _ (hS.get 0 rfl) (hu.st hS) hat).mono ?_; rintro e w1 ⟨rfl, at2, hc, hat2⟩; replace hS := hS.call1 0 rfl hc; try simp only [List.cons_append, List.nil_append, List.append_nil, List.set_cons_zero, List.set_cons_succ] at hS; clear hc hat; have hat := hat2; clear hat2
  have h1 := num1_lt s
  go_wp2_with (first | ((with_reducible show wpList _ _ _ (Oper.mk _ (Op.store _ _ _) _ _ _ _ :: _) _ _); refine wpl rfl ?_; refine owp_store1 hS 2 rfl rfl rfl rfl rfl (Oop.lt' _ Hz.out (by omega)) (Oop.set_kind _ _ _ _ _) ?_; clear hS; intro _ hS; try simp only [List.cons_append, List.nil_append, List.append_nil, List.set_cons_zero, List.set_cons_succ] at hS))
  refine (rnum_ok 8 (by omega) (by omega) b u l _ _ _ (hS.get 0 rfl) (hu.st hS) hat).mono ?_; rintro e w1 ⟨rfl, at2, hc, hat2⟩; replace hS := hS.call1 0 rfl hc; try simp only [List.cons_append, List.nil_append, List.append_nil, List.set_cons_zero, List.set_cons_succ] at hS; clear hc hat; have hat := hat2; clear hat2
  go_wp2_with (first | ((with_reducible show wpList _ _ _ (Oper.mk _ (Op.store _ _ _) _ _ _ _ :: _) _ _); refine wpl rfl ?_; refine owp_store1 hS 2 rfl rfl rfl rfl rfl (Oop.lt' _ Hz.out (by omega)) (Oop.set_amount _ _ _ _ _) ?_; clear hS; intro _ hS; try simp only [List.cons_append, List.nil_append, List.append_nil, List.set_cons_zero, List.set_cons_succ] at hS))
  refine (rnum_ok 8 (by omega) (by omega) b u l _ _ _ (hS.get 0 rfl) (hu.st hS) hat).mono ?_; rintro e w1 ⟨rfl, at2, hc, hat2⟩; replace hS := hS.call1 0 rfl hc; try simp only [List.cons_append, List.nil_append, List.append_nil, List.set_cons_zero, List.set_cons_succ] at hS; clear hc hat; have hat := hat2; clear hat2
  go_wp2_with (first | ((with_reducible show wpList _ _ _ (Oper.mk _ (Op.store _ _ _) _ _ _ _ :: _) _ _); refine wpl rfl ?_; refine owp_store1 hS 2 rfl rfl rfl rfl rfl (Oop.lt' _ Hz.out (by omega)) (Oop.set_id _ _ _ _ _ Hz.out) ?_; clear hS; intro _ hS; try simp only [List.cons_append, List.nil_append, List.append_nil, List.set_cons_zero, List.set_cons_succ] at hS))
  refine (rtakeCond_ok b u l _ _ _ (hS.get 0 rfl) (hu.st hS) hat).mono ?_; rintro e w1 ⟨rfl, at2, hc, hat2⟩; replace hS := hS.call1 0 rfl hc; try simp only [List.cons_append, List.nil_append, List.append_nil, List.set_cons_zero, List.set_cons_succ] at hS; clear hc hat; have hat := hat2; clear hat2
  have Hh := Lib.hid (takeCond_hash (((s.num 1).2.num 8).2.num 8).2)
  have Ht := Lib.hid (show takeOp s = (if (takeCond (((s.num 1).2.num 8).2.num 8).2).2.bad ≠ 0 then Oop.zero else ⟨(s.num 1).1, ((s.num 1).2.num 8).1, (takeCond (((s.num 1).2.num 8).2.num 8).2).1, (((s.num 1).2.num 8).2.num 8).1⟩, (takeCond (((s.num 1).2.num 8).2.num 8).2).2) from rfl)
  generalize (takeCond (((s.num 1).2.num 8).2.num 8).2).1 = c at *
  generalize (takeCond (((s.num 1).2.num 8).2.num 8).2).2 = s5 at *
  generalize (s.num 1).1 = v1 at *
  generalize ((s.num 1).2.num 8).1 = v2 at *
  generalize (((s.num 1).2.num 8).2.num 8).1 = v3 at *
  by_cases hbad : s5.bad = 0
  · have Hfin := Lib.hid (show takeOp s = (⟨v1, v2, c, v3⟩, s5) by rw [Ht.out, if_neg (by simpa using hbad)])
    have hb1 : (s5.bad != 0) = false := by simpa using hbad
    clear hbad
    go_wp2_with (first | ((with_reducible show wpList _ _ _ (Oper.mk _ (Op.store _ _ _) _ _ _ _ :: _) _ _); refine wpl rfl ?_; refine owp_store hS 2 rfl rfl rfl rfl (Cond.len _ Hh.out) (Oop.lt _ Hz.out (by omega)) (Cond.one _) (Oop.set_cond _ _ _ _ _ Hz.out) ?_; clear hS; intro _ hS; try simp only [List.cons_append, List.nil_append, List.append_nil, List.set_cons_zero, List.set_cons_succ] at hS) | ((with_reducible show wpList _ _ _ (Oper.mk _ (Op.load _ _) _ _ _ _ :: _) _ _); refine wpl rfl ?_; refine (owp_load1 hS 0 rfl rfl rfl rfl ?_)) | ((with_reducible show wpList _ _ _ (Oper.mk _ (Op.load _ _) _ _ _ _ :: _) _ _); refine wpl rfl ?_; refine (owp_loadW hS 2 rfl rfl rfl (Oop.len _ Hh.out) ?_)) | ((with_reducible show wpList _ _ _ (Oper.mk _ (Op.store _ _ _) _ _ _ _ :: _) _ _); refine wpl rfl ?_; refine (owp_storeW hS 1 rfl rfl rfl rfl (Oop.len _ Hh.out) (Oop.len Oop.zero Hz.out) (Oop.one _) ?_); clear hS; intro _ hS; try simp only [List.cons_append, List.nil_append, List.append_nil, List.set_cons_zero, List.set_cons_succ] at hS))
    (try simp only [Exit.inBlock, Exit.then]); refine bodyPost_ret (res_cell rfl rfl hS 1 rfl (Oop.len _ Hh.out)) rfl ?_
    show RPost w b u l (.agg (takeOp s).1.cells.toArray) (takeOp s).2 _ _
    rw [Hfin.out]
    exact ⟨rfl, at2, hS.pick [0] rfl (by decide), hat⟩
  · have Hfin := Lib.hid (show takeOp s = (Oop.zero, s5) by rw [Ht.out, if_pos (by simpa using hbad)])
    have hb1 : (s5.bad != 0) = true := by simpa using hbad
    clear hbad
    go_wp2_with (first | ((with_reducible show wpList _ _ _ (Oper.mk _ (Op.build _ _) _ _ _ _ :: _) _ _); refine wpl rfl ?_; refine owp_build rfl [] rfl (build_opR0 _) ?_) | ((with_reducible show wpList _ _ _ (Oper.mk _ (Op.store _ _ _) _ _ _ _ :: _) _ _); refine wpl rfl ?_; refine owp_store hS 2 rfl rfl rfl rfl (Cond.len _ Hh.out) (Oop.lt _ Hz.out (by omega)) (Cond.one _) (Oop.set_cond _ _ _ _ _ Hz.out) ?_; clear hS; intro _ hS; try simp only [List.cons_append, List.nil_append, List.append_nil, List.set_cons_zero, List.set_cons_succ] at hS) | ((with_reducible show wpList _ _ _ (Oper.mk _ (Op.load _ _) _ _ _ _ :: _) _ _); refine wpl rfl ?_; refine (owp_load1 hS 0 rfl rfl rfl rfl ?_)) | ((with_reducible show wpList _ _ _ (Oper.mk _ (Op.store _ _ _) _ _ _ _ :: _) _ _); refine wpl rfl ?_; refine (owp_storeW hS 1 rfl rfl rfl rfl (Oop.len Oop.zero Hz.out) (Oop.len Oop.zero Hz.out) (Oop.one _) ?_); clear hS; intro _ hS; try simp only [List.cons_append, List.nil_append, List.append_nil, List.set_cons_zero, List.set_cons_succ] at hS))
    (try simp only [Exit.inBlock, Exit.then]); refine bodyPost_ret (res_cell rfl rfl hS 1 rfl (Oop.len Oop.zero Hz.out)) rfl ?_
    show RPost w b u l (.agg (takeOp s).1.cells.toArray) (takeOp s).2 _ _
    rw [Hfin.out]
    exact ⟨rfl, at2, hS.pick [0] rfl (by decide), hat⟩

end Go.Proofs.Ytldmkafobbemjaa
namespace Go.Proofs.Ytldmkafobbemjaa
set_option linter.unusedSimpArgs false
set_option linter.unusedVariables false
open Go Go.RowKit
set_option maxRecDepth 100000
set_option maxHeartbeats 2000000

theorem cut_le (n : Nat) (s : PS) : (s.cut n).1.length ≤ n := by
  unfold PS.cut
  split
  · simp
  · split
    · simp
    · simp; omega
theorem Hop.set_channel (x c a i : Nat) : (Hop.cells ⟨c, a, i⟩).set 0 (.int .u32 x) = Hop.cells ⟨x, a, i⟩ := rfl
theorem Hop.set_amount (x c a i : Nat) : (Hop.cells ⟨c, a, i⟩).set 1 (.int .u64 x) = Hop.cells ⟨c, x, i⟩ := rfl
theorem Hop.ltk (h : Hop) {k : Nat} (hk : k < 3) : k < h.cells.length := hk

def RTrailPost (w : World) (b : Nat) (u : Value) (l : List UInt8) (s : PS) (T : TypeId) (e : Ending) (w' : World) : Prop :=
  ∃ r at' x, e = .returned r ∧ St w [b] w' [rfBlk b u at' (takeTrail s).2.bad, x] ∧ RAt l at' (takeTrail s).2 ∧ RowV T 3 r (takeTrail s).1.length (hopCells (takeTrail s).1) x

end Go.Proofs.Ytldmkafobbemjaa
