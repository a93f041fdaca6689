/-
  What the document's reader of bytes does: a sum.
-/
import Derived.Test.YtjgphbdffhmmgaaRef3
namespace Go.Proofs.Ytjgphbdffhmmgaa
set_option linter.unusedSimpArgs false
set_option linter.unusedVariables false
open Go Go.RowKit
set_option maxRecDepth 100000
set_option maxHeartbeats 2000000

theorem fill_set (p : List UInt8) (k : Nat) (h : k < p.length) (h32 : p.length ≤ 32) :
    (bs (p.take k) ++ bs (zb (32 - k))).set k (.int .u8 p[k].toNat) = bs (p.take (k + 1)) ++ bs (zb (32 - (k + 1))) := by
  have hl : (bs (p.take k)).length = k := by rw [bs_length, List.length_take]; omega
  have e : 32 - k = (32 - (k + 1)) + 1 := by omega
  rw [List.set_append, hl, if_neg (by omega), Nat.sub_self, e, List.take_succ_eq_append_getElem h, bs_append, List.append_assoc]
  rfl
theorem fill_end (p : List UInt8) : bs (p.take p.length) ++ bs (zb (32 - p.length)) = bs (pad 32 p) := by
  rw [List.take_length, pad, bs_append]
  rfl

theorem rsum_ok (b : Nat) (u : Value) (l : List UInt8) (at' : Nat) (s : PS) (w : World) (hb : Holds w (rfBlk b u at' s.bad)) (hu : URd w b u l) (hat : RAt l at' s) :
    Calls Try.prog 53 #[.pointer (some ⟨b, 0, none⟩)] w (RPost w b u l (.agg (bs s.sum.1).toArray) s.sum.2) := by
  have hS := rf_start hb
  go_enter Try.func53, Try.ntmps53
  go_wp2_with (first | ((with_reducible show wpList _ _ _ (Oper.mk (some 2) (Op.alloc _) _ _ _ _ :: _) _ _); refine wpl rfl ?_; refine (owp_allocAt hS 2 rfl rfl ?_); clear hS; intro gr _ hS; simp only [List.cons_append, List.nil_append] at hS) | ((with_reducible show wpList _ _ _ (Oper.mk (some 3) (Op.alloc _) _ _ _ _ :: _) _ _); refine wpl rfl ?_; refine (owp_allocAt hS 3 rfl rfl ?_); clear hS; intro gd _ hS; simp only [List.cons_append, List.nil_append] at hS))
  refine (raw_ok 32 (by omega) (by omega) b u l at' s _ (hS.get 0 rfl) (hu.st hS) hat).mono ?_
  rintro e w1 ⟨p, at2, x, rfl, hc, hat2, hrow⟩
  replace hS := hS.call1 0 rfl hc
  try simp only [List.cons_append, List.nil_append, List.append_nil, List.set_cons_zero, List.set_cons_succ] at hS
  clear hc hat
  have hlen : (s.cut 32).1.length ≤ 32 := by rcases cut_len 32 s with h | h <;> rw [h] <;> simp
  have hsum : s.sum = (pad 32 (s.cut 32).1, (s.cut 32).2) := rfl
  have Hsum := Lib.hid hsum
  clear hsum
  generalize (s.cut 32).1 = p' at *
  generalize (s.cut 32).2 = s' at *
  obtain ⟨a, c, rfl⟩ := hrow.isSl
  have Hrow := Lib.hid hrow
  clear hrow
  go_wp2_with fail
  go_loopw [5] (fun i wr => ∃ k : Nat, k ≤ p'.length ∧ i = .int .i64 k ∧
    St w [b] wr [rfBlk b u at2 s'.bad, some (gr, bs (zb 32), 27), some (gd, bs (p'.take k) ++ bs (zb (32 - k)), 27), x]) (fun i _ => p'.length - (intOf i).toNat)
  case atStart => exact ⟨0, Nat.zero_le _, rfl, hS⟩
  case round =>
    clear hS
    obtain ⟨k, hk, rfl, hS⟩ := hrel
    by_cases hlt : k < p'.length
    · obtain ⟨ad, rfl, hspot, hc⟩ := cells_row (Hrow.out.read (hS.get 3 rfl)) k p'[k] (by simp)
      obtain ⟨g, off, spot⟩ := ad
      simp only at hspot hc
      subst hspot
      have Hset := Lib.hid (fill_set p' k hlt hlen)
      have Hl := Lib.hid (show k < (bs (p'.take k) ++ bs (zb (32 - k))).length by rw [List.length_append, bs_length, bs_length, List.length_take, zb_length]; omega)
      have hk32 : (k : Int) < 32 := by omega
      go_wp2_with (first | ((with_reducible show wpList _ _ _ (Oper.mk _ (Op.store _ _ _) _ _ _ _ :: _) _ _); refine wpl rfl ?_; refine owp_store1 hS 2 rfl rfl rfl rfl rfl Hl.out Hset.out ?_; clear hS; intro _ hS; try simp only [List.cons_append, List.nil_append, List.append_nil, List.set_cons_zero, List.set_cons_succ] at hS))
      go_roundw
      case rel => exact ⟨k + 1, by omega, by go_num, hS⟩
      case measure => simp [intOf]; omega
    · have hkl : k = p'.length := by omega
      subst hkl
      rw [fill_end] at hS
      have hl1 : (bs (pad 32 p')).length = 32 := by rw [bs_length, pad, List.length_append, List.length_replicate]; omega
      have Hl1 := Lib.hid hl1
      clear hl1 hlt hk
      go_wp2_with (first | ((with_reducible show wpList _ _ _ (Oper.mk _ (Op.load _ _) _ _ _ _ :: _) _ _); refine wpl rfl ?_; refine (owp_loadW hS 2 rfl rfl rfl (Hl1.out) ?_)) | ((with_reducible show wpList _ _ _ (Oper.mk _ (Op.store _ _ _) _ _ _ _ :: _) _ _); refine wpl rfl ?_; refine (owp_storeW hS 1 rfl rfl rfl rfl (Hl1.out) (zb32_len) (bs_one _) ?_); clear hS; intro _ hS; try simp only [List.cons_append, List.nil_append, List.append_nil, List.set_cons_zero, List.set_cons_succ] at hS))
      (try simp only [Exit.inBlock, Exit.then]); refine bodyPost_ret (res_cell rfl rfl hS 1 rfl (Hl1.out)) rfl ?_
      show RPost w b u l (.agg (bs s.sum.1).toArray) s.sum.2 _ _
      rw [Hsum.out]
      exact ⟨rfl, at2, hS.pick [0] rfl (by decide), hat2⟩

end Go.Proofs.Ytjgphbdffhmmgaa
