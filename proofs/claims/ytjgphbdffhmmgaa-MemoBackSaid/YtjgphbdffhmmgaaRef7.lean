/-
  A lamp's signature, as it is taken off bytes by the document.
-/
import Derived.Test.YtjgphbdffhmmgaaRef6
import Derived.StillTailTactics
namespace Go.Proofs.Ytjgphbdffhmmgaa
set_option linter.unusedSimpArgs false
set_option linter.unusedVariables false
open Go Go.RowKit
set_option maxRecDepth 100000
set_option maxHeartbeats 2000000

theorem put_first (X : List UInt8) (c : UInt8) (m n at' : Nat) (R : List Value) (ha : at' = X.length) (hm : m = n + 1) :
    (bs (X ++ zb m) ++ R).set at' (.int .u8 c.toNat) = bs (X ++ [c] ++ zb n) ++ R := by
  subst ha hm
  rw [bs_append, List.append_assoc, List.set_append, bs_length, if_neg (by omega), Nat.sub_self, bs_append, bs_append]
  simp [zb, List.replicate_succ, bs, B]
theorem put_second (P : List Value) (X : List UInt8) (c : UInt8) (m n at' : Nat) (ha : at' = P.length + X.length) (hm : m = n + 1) :
    (P ++ bs (X ++ zb m)).set at' (.int .u8 c.toNat) = P ++ bs (X ++ [c] ++ zb n) := by
  subst ha hm
  rw [List.set_append, if_neg (by omega), Nat.add_sub_cancel_left, bs_append, List.set_append, bs_length, if_neg (by omega), Nat.sub_self, bs_append, bs_append]
  simp [zb, List.replicate_succ, bs, B]
def half (S d : List UInt8) (k i : Nat) : List Value := bs ((S ++ d.take i) ++ zb (512 - (k * 16 + i)))
theorem half_len (S d : List UInt8) (k i : Nat) (hS : S.length = k * 16) (hd : i ≤ d.length) (hi : k * 16 + i ≤ 512) : (half S d k i).length = 512 := by
  simp only [half, bs_length, List.length_append, List.length_take, zb_length]; omega

theorem half_set1 (S d : List UInt8) (k i : Nat) (R : List Value) (hS : S.length = k * 16) (hi : i < d.length) (hk : k * 16 + i < 512) :
    (half S d k i ++ R).set (k * 16 + i) (.int .u8 d[i].toNat) = half S d k (i + 1) ++ R := by
  unfold half
  rw [put_first (S ++ d.take i) d[i] _ (512 - (k * 16 + (i + 1))) _ R (by rw [List.length_append, List.length_take, hS]; omega) (by omega), List.take_succ_eq_append_getElem hi]
  simp only [List.append_assoc]
theorem half_set2 (P : List Value) (S d : List UInt8) (k i : Nat) (hP : P.length = 512) (hS : S.length = k * 16) (hi : i < d.length) (hk : k * 16 + i < 512) :
    (P ++ half S d k i).set (512 + k * 16 + i) (.int .u8 d[i].toNat) = P ++ half S d k (i + 1) := by
  unfold half
  rw [put_second P (S ++ d.take i) d[i] _ (512 - (k * 16 + (i + 1))) _ (by rw [List.length_append, List.length_take, hS, hP]; omega) (by omega), List.take_succ_eq_append_getElem hi]
  simp only [List.append_assoc]
theorem half_next (S d : List UInt8) (k : Nat) (hd : d.length = 16) : half S d k 16 = half (S ++ d) [] (k + 1) 0 := by
  unfold half
  rw [List.take_of_length_le (by omega), List.take_nil, List.append_nil, Nat.add_zero, Nat.add_mul, Nat.one_mul]

def RLampPost (w : World) (b : Nat) (u : Value) (l : List UInt8) (s : PS) (e : Ending) (w' : World) : Prop :=
  RPost w b u l (.agg (takeLamp s).1.cells.toArray) (takeLamp s).2 e w'

theorem rtakeLamp_ok (b : Nat) (u : Value) (l : List UInt8) (at' : Nat) (s : PS) (w : World) (hb : Holds w (rfBlk b u at' s.bad)) (hu : URd w b u l) (hat : RAt l at' s) :
    Calls Try.prog 52 #[.pointer (some ⟨b, 0, none⟩)] w (RLampPost w b u l s) := by
  have hS := rf_start hb
  have Hz := Lib.hid lzero_len
  go_enter Try.func52, Try.ntmps52
  go_wp2_with (first | ((with_reducible show wpList _ _ _ (Oper.mk (some 2) (Op.alloc _) _ _ _ _ :: _) _ _); refine wpl rfl ?_; refine (owp_allocAt hS 2 rfl rfl ?_); clear hS; intro gr _ hS; simp only [List.cons_append, List.nil_append] at hS) | ((with_reducible show wpList _ _ _ (Oper.mk (some 3) (Op.alloc _) _ _ _ _ :: _) _ _); refine wpl rfl ?_; refine (owp_allocAt hS 3 rfl rfl ?_); clear hS; intro gs _ hS; simp only [List.cons_append, List.nil_append] at hS))
  go_loopw [4] (fun i wr => ∃ (k at3 : Nat), k ≤ 32 ∧ i = .int .i64 k ∧
      St w [b] wr [rfBlk b u at3 (times PS.sum k s).2.bad, some (gr, LSig.zero.cells, 55), some (gs, half (shownOf k s) [] k 0 ++ half (otherOf k s) [] k 0, 55)] ∧ RAt l at3 (times PS.sum k s).2) (fun i _ => 32 - (intOf i).toNat)
  case atStart => exact ⟨0, at', by omega, rfl, by rw [times_zero, shownOf_zero, otherOf_zero]; exact hS, by rw [times_zero]; exact hat⟩
  case round =>
    clear hS hat
    obtain ⟨k, at3, hk, rfl, hS, hat⟩ := hrel
    by_cases hlt : k < 32
    · have H1 := Lib.hid (shownOf_succ k s)
      have H2 := Lib.hid (otherOf_succ k s)
      have L1 := Lib.hid (shownOf_len k s)
      have L2 := Lib.hid (otherOf_len k s)
      have Hst : Hid (times PS.sum (k + 1) s = ((times PS.sum k s).1 ++ [(times PS.sum k s).2.sum.1], (times PS.sum k s).2.sum.2)) := times_succ _ _ _
      generalize shownOf k s = S at *
      generalize otherOf k s = O at *
      generalize (times PS.sum k s).1 = tl at *
      generalize (times PS.sum k s).2 = s2 at *
      go_wp2_with fail
      refine (rsum_ok b u l _ _ _ (hS.get 0 rfl) (hu.st hS) hat).mono ?_; rintro e w1 ⟨rfl, at2, hc, hat2⟩; replace hS := hS.call1 0 rfl hc; try simp only [List.cons_append, List.nil_append, List.append_nil, List.set_cons_zero, List.set_cons_succ] at hS; clear hc hat; have hat := hat2; clear hat2
      have Hd := Lib.hid (sum_len s2)
      generalize s2.sum.1 = d at *
      generalize s2.sum.2 = s3 at *
      have Hdl := Lib.hid (show (bs d).length = 32 by rw [bs_length, Hd.out])
      go_wp2_with (first | ((with_reducible show wpList _ _ _ (Oper.mk (some 5) (Op.alloc _) _ _ _ _ :: _) _ _); refine wpl rfl ?_; refine (owp_allocAt hS 5 rfl rfl ?_); clear hS; intro gd _ hS; simp only [List.cons_append, List.nil_append] at hS) | ((with_reducible show wpList _ _ _ (Oper.mk _ (Op.store _ _ _) _ _ _ _ :: _) _ _); refine wpl rfl ?_; refine (owp_storeW hS 3 rfl rfl rfl rfl (Hdl.out) (zb32_len) (bs_one _) ?_); clear hS; intro _ hS; try simp only [List.cons_append, List.nil_append, List.append_nil, List.set_cons_zero, List.set_cons_succ] at hS))
      go_loopw [6] (fun j wr => ∃ (i : Nat), i ≤ 16 ∧ j = .int .i64 i ∧
        St w [b] wr [rfBlk b u at2 s3.bad, some (gr, LSig.zero.cells, 55), some (gs, half S d k i ++ half O (d.drop 16) k i, 55), some (gd, bs d, 27)]) (fun j _ => 16 - (intOf j).toNat)
      case atStart => exact ⟨0, by omega, rfl, hS⟩
      case round =>
        clear hS
        obtain ⟨i, hi, rfl, hS⟩ := hrel
        by_cases hlti : i < 16
        · have hi32 : (i : Int) < 32 := by omega
          have hk32 : (k : Int) < 32 := by omega
          have hi16 : (i : Int) < 16 := by omega
          have hd1 : i < d.length := by rw [Hd.out]; omega
          have hd2 : i < (d.drop 16).length := by rw [List.length_drop, Hd.out]; omega
          have hA := half_len S d k i L1.out (by omega) (by omega)
          have hA' := half_len S d k (i + 1) L1.out (by omega) (by omega)
          have hB := half_len O (d.drop 16) k i L2.out (by omega) (by omega)
          have Hlen1 := Lib.hid (show k * 16 + i < (half S d k i ++ half O (d.drop 16) k i).length by rw [List.length_append, hA, hB]; omega)
          have Hlen2 := Lib.hid (show 512 + k * 16 + i < (half S d k (i + 1) ++ half O (d.drop 16) k i).length by rw [List.length_append, hA', hB]; omega)
          have Hset1 := Lib.hid (half_set1 S d k i (half O (d.drop 16) k i) L1.out hd1 (by omega))
          have h32 : 16 + i < d.length := by rw [Hd.out]; omega
          have Hset2 := Lib.hid (show (half S d k (i + 1) ++ half O (d.drop 16) k i).set (512 + k * 16 + i) (.int .u8 d[16 + i].toNat) = half S d k (i + 1) ++ half O (d.drop 16) k (i + 1) by
            have h := half_set2 (half S d k (i + 1)) O (d.drop 16) k i hA' L2.out hd2 (by omega)
            rw [List.getElem_drop] at h
            exact h)
          clear hA hA' hB
          have hc1 : wr.cell? ⟨gd, i, none⟩ = some (.int .u8 d[i].toNat) := by
            rw [cell_row (hS.get 3 rfl _ _ _ rfl)]
            simp [bs, B, hd1]
          go_wp2_with fail
          go_still_tail 8, (by kernel_rfl)
          change wpList _ _ _ _ _ (World.drew _)
          replace hS := hS.drew
          go_wp2_with (first | ((with_reducible show wpList _ _ _ (Oper.mk _ (Op.store _ _ _) _ _ _ _ :: _) _ _); refine wpl rfl ?_; refine owp_store1 hS 2 rfl rfl rfl rfl rfl Hlen1.out Hset1.out ?_; clear hS; intro w5 hS; try simp only [List.cons_append, List.nil_append, List.append_nil, List.set_cons_zero, List.set_cons_succ] at hS))
          have hc2 : w5.cell? ⟨gd, 16 + i, none⟩ = some (.int .u8 d[16 + i].toNat) := by
            rw [cell_row (hS.get 3 rfl _ _ _ rfl)]
            simp [bs, B, h32]
          have hw1 : IntKind.i64.wrap ((16 : Int) + i) = (16 : Int) + i := IntWalk.i64_in _ (by omega)
          have hw2 : ((16 : Int) + i).toNat = 16 + i := by omega
          have hw3 : (16 : Int) + i < 32 := by omega
          have hw4 : (0 : Int) ≤ (16 : Int) + i := by omega
          clear hc1
          simp only [Act.put]
          go_still_tail 9, (by kernel_rfl)
          change wpList _ _ _ _ _ (World.drew _)
          replace hS := hS.drew
          go_wp2_with (first | ((with_reducible show wpList _ _ _ (Oper.mk _ (Op.store _ _ _) _ _ _ _ :: _) _ _); refine wpl rfl ?_; refine owp_store1 hS 2 rfl rfl rfl rfl rfl Hlen2.out Hset2.out ?_; clear hS; intro w6 hS; try simp only [List.cons_append, List.nil_append, List.append_nil, List.set_cons_zero, List.set_cons_succ] at hS))
          go_roundw
          case rel => exact ⟨i + 1, by omega, by go_num, hS⟩
          case measure => simp [intOf]; omega
        · have hi16 : i = 16 := by omega
          subst hi16
          have hd16 : (d.drop 16).length = 16 := by rw [List.length_drop, Hd.out]
          have hS1 := hS.pick (L' := [rfBlk b u at2 s3.bad, some (gr, LSig.zero.cells, 55), some (gs, half S d k 16 ++ half O (d.drop 16) k 16, 55)]) [0, 1, 2] rfl (by decide)
          have e1 : half S d k 16 = half (S ++ d.take 16) [] (k + 1) 0 := by
            have := half_next S (d.take 16) k (by rw [List.length_take, Hd.out]; rfl)
            rw [← this]
            unfold half
            rw [List.take_take, Nat.min_self]
          rw [e1, half_next O (d.drop 16) k hd16, ← H1.out, ← H2.out] at hS1
          clear hS e1 hd16 hi hlti
          have hS := hS1
          clear hS1
          go_wp2_with fail
          go_roundw
          case rel => exact ⟨k + 1, at2, by omega, by go_num, by rw [Hst.out]; exact hS, by rw [Hst.out]; exact hat⟩
          case measure => simp [intOf]; omega
    · have hkn : k = 32 := by omega
      subst hkn
      have ht : takeLamp s = (⟨shownOf 32 s, otherOf 32 s⟩, (times PS.sum 32 s).2) := by simp only [takeLamp, shownOf, otherOf]
      have e1 : half (shownOf 32 s) [] 32 0 ++ half (otherOf 32 s) [] 32 0 = LSig.cells ⟨shownOf 32 s, otherOf 32 s⟩ := by simp [half, zb, LSig.cells]
      have Hlen := Lib.hid (show (LSig.cells ⟨shownOf 32 s, otherOf 32 s⟩).length = 1024 from LSig.len _ (shownOf_len 32 s) (otherOf_len 32 s))
      rw [e1] at hS
      have Ht := Lib.hid ht
      clear ht e1 hlt hk
      go_wp2_with (first | ((with_reducible show wpList _ _ _ (Oper.mk _ (Op.load _ _) _ _ _ _ :: _) _ _); refine wpl rfl ?_; refine (owp_loadW hS 2 rfl rfl rfl (Hlen.out) ?_)) | ((with_reducible show wpList _ _ _ (Oper.mk _ (Op.store _ _ _) _ _ _ _ :: _) _ _); refine wpl rfl ?_; refine (owp_storeW hS 1 rfl rfl rfl rfl (Hlen.out) (Hz.out) (LSig.one _) ?_); clear hS; intro _ hS; try simp only [List.cons_append, List.nil_append, List.append_nil, List.set_cons_zero, List.set_cons_succ] at hS))
      (try simp only [Exit.inBlock, Exit.then]); refine bodyPost_ret (res_cell rfl rfl hS 1 rfl (Hlen.out)) rfl ?_
      show RPost w b u l (.agg (takeLamp s).1.cells.toArray) (takeLamp s).2 _ _
      rw [Ht.out]
      exact ⟨rfl, at3, hS.pick [0] rfl (by decide), hat⟩

end Go.Proofs.Ytjgphbdffhmmgaa
