/-
  A lamp's signature, as it is taken off bytes by the document.
  A ring's signature, as it is taken off bytes by the document.
  Whether a memo has just what its kind has, as the document says it.
  A memo, as it is taken off bytes by the document.
-/
import Derived.Test.YtldmkafobbemjaaA7
import Derived.StillTailTactics
namespace Go.Proofs.Ytldmkafobbemjaa
set_option linter.unusedSimpArgs false
set_option linter.unusedVariables false
open Go Go.RowKit
set_option maxRecDepth 100000
set_option maxHeartbeats 2000000

theorem put_first (X : List UInt8) (c : UInt8) (m n at' : Nat) (R : List Value) (ha : at' = X.length) (hm : m = n + 1) :
    (bs (X ++ zb m) ++ R).set at' (.int .u8 c.toNat) = bs (X ++ [c] ++ zb n) ++ R := by
  subst ha hm
  rw [bs_append, List.append_assoc, List.set_append, bs_length, if_neg (by omega), Nat.sub_self, bs_append, bs_append]
  simp [zb, List.replicate_succ, bs, B]
theorem put_second (P : List Value) (X : List UInt8) (c : UInt8) (m n at' : Nat) (ha : at' = P.length + X.length) (hm : m = n + 1) :
    (P ++ bs (X ++ zb m)).set at' (.int .u8 c.toNat) = P ++ bs (X ++ [c] ++ zb n) := by
  subst ha hm
  rw [List.set_append, if_neg (by omega), Nat.add_sub_cancel_left, bs_append, List.set_append, bs_length, if_neg (by omega), Nat.sub_self, bs_append, bs_append]
  simp [zb, List.replicate_succ, bs, B]
def half (S d : List UInt8) (k i : Nat) : List Value := bs ((S ++ d.take i) ++ zb (512 - (k * 16 + i)))
theorem half_len (S d : List UInt8) (k i : Nat) (hS : S.length = k * 16) (hd : i ≤ d.length) (hi : k * 16 + i ≤ 512) : (half S d k i).length = 512 := by
  simp only [half, bs_length, List.length_append, List.length_take, zb_length]; omega

theorem half_set1 (S d : List UInt8) (k i : Nat) (R : List Value) (hS : S.length = k * 16) (hi : i < d.length) (hk : k * 16 + i < 512) :
    (half S d k i ++ R).set (k * 16 + i) (.int .u8 d[i].toNat) = half S d k (i + 1) ++ R := by
  unfold half
  rw [put_first (S ++ d.take i) d[i] _ (512 - (k * 16 + (i + 1))) _ R (by rw [List.length_append, List.length_take, hS]; omega) (by omega), List.take_succ_eq_append_getElem hi]
  simp only [List.append_assoc]
theorem half_set2 (P : List Value) (S d : List UInt8) (k i : Nat) (hP : P.length = 512) (hS : S.length = k * 16) (hi : i < d.length) (hk : k * 16 + i < 512) :
    (P ++ half S d k i).set (512 + k * 16 + i) (.int .u8 d[i].toNat) = P ++ half S d k (i + 1) := by
  unfold half
  rw [put_second P (S ++ d.take i) d[i] _ (512 - (k * 16 + (i + 1))) _ (by rw [List.length_append, List.length_take, hS, hP]; omega) (by omega), List.take_succ_eq_append_getElem hi]
  simp only [List.append_assoc]
theorem half_next (S d : List UInt8) (k : Nat) (hd : d.length = 16) : half S d k 16 = half (S ++ d) [] (k + 1) 0 := by
  unfold half
  rw [List.take_of_length_le (by omega), List.take_nil, List.append_nil, Nat.add_zero, Nat.add_mul, Nat.one_mul]

def RLampPost (w : World) (b : Nat) (u : Value) (l : List UInt8) (s : PS) (e : Ending) (w' : World) : Prop :=
  RPost w b u l (.agg (takeLamp s).1.cells.toArray) (takeLamp s).2 e w'

theorem rtakeLamp_ok (b : Nat) (u : Value) (l : List UInt8) (at' : Nat) (s : PS) (w : World) (hb : Holds w (rfBlk b u at' s.bad)) (hu : URd w b u l) (hat : RAt l at' s) :
    Calls Try.prog 71 #[.pointer (some ⟨b, 0, none⟩)] w (RLampPost w b u l s) := by
  have hS := rf_start hb
  have Hz := Lib.hid lzero_len
  go_enter Try.func71, Try.ntmps71
  go_wp2_with (first | ((with_reducible show wpList _ _ _ (Oper.mk (some 2) (Op.alloc _) _ _ _ _ :: _) _ _); refine wpl rfl ?_; refine (owp_allocAt hS 2 rfl rfl ?_); clear hS; intro gr _ hS; simp only [List.cons_append, List.nil_append] at hS) | ((with_reducible show wpList _ _ _ (Oper.mk (some 3) (Op.alloc _) _ _ _ _ :: _) _ _); refine wpl rfl ?_; refine (owp_allocAt hS 3 rfl rfl ?_); clear hS; intro gs _ hS; simp only [List.cons_append, List.nil_append] at hS))
  go_loopw [4] (fun i wr => ∃ (k at3 : Nat), k ≤ 32 ∧ i = .int .i64 k ∧
      St w [b] wr [rfBlk b u at3 (times PS.sum k s).2.bad, some (gr, LSig.zero.cells, 63), some (gs, half (shownOf k s) [] k 0 ++ half (otherOf k s) [] k 0, 63)] ∧ RAt l at3 (times PS.sum k s).2) (fun i _ => 32 - (intOf i).toNat)
  case atStart => exact ⟨0, at', by omega, rfl, by rw [times_zero, shownOf_zero, otherOf_zero]; exact hS, by rw [times_zero]; exact hat⟩
  case round =>
    clear hS hat
    obtain ⟨k, at3, hk, rfl, hS, hat⟩ := hrel
    by_cases hlt : k < 32
    · have H1 := Lib.hid (shownOf_succ k s)
      have H2 := Lib.hid (otherOf_succ k s)
      have L1 := Lib.hid (shownOf_len k s)
      have L2 := Lib.hid (otherOf_len k s)
      have Hst : Hid (times PS.sum (k + 1) s = ((times PS.sum k s).1 ++ [(times PS.sum k s).2.sum.1], (times PS.sum k s).2.sum.2)) := times_succ _ _ _
      generalize shownOf k s = S at *
      generalize otherOf k s = O at *
      generalize (times PS.sum k s).1 = tl at *
      generalize (times PS.sum k s).2 = s2 at *
      go_wp2_with fail
      refine (rsum_ok b u l _ _ _ (hS.get 0 rfl) (hu.st hS) hat).mono ?_; rintro e w1 ⟨rfl, at2, hc, hat2⟩; replace hS := hS.call1 0 rfl hc; try simp only [List.cons_append, List.nil_append, List.append_nil, List.set_cons_zero, List.set_cons_succ] at hS; clear hc hat; have hat := hat2; clear hat2
      have Hd := Lib.hid (sum_len s2)
      generalize s2.sum.1 = d at *
      generalize s2.sum.2 = s3 at *
      have Hdl := Lib.hid (show (bs d).length = 32 by rw [bs_length, Hd.out])
      go_wp2_with (first | ((with_reducible show wpList _ _ _ (Oper.mk (some 5) (Op.alloc _) _ _ _ _ :: _) _ _); refine wpl rfl ?_; refine (owp_allocAt hS 5 rfl rfl ?_); clear hS; intro gd _ hS; simp only [List.cons_append, List.nil_append] at hS) | ((with_reducible show wpList _ _ _ (Oper.mk _ (Op.store _ _ _) _ _ _ _ :: _) _ _); refine wpl rfl ?_; refine (owp_storeW hS 3 rfl rfl rfl rfl (Hdl.out) (zb32_len) (bs_one _) ?_); clear hS; intro _ hS; try simp only [List.cons_append, List.nil_append, List.append_nil, List.set_cons_zero, List.set_cons_succ] at hS))
      go_loopw [6] (fun j wr => ∃ (i : Nat), i ≤ 16 ∧ j = .int .i64 i ∧
        St w [b] wr [rfBlk b u at2 s3.bad, some (gr, LSig.zero.cells, 63), some (gs, half S d k i ++ half O (d.drop 16) k i, 63), some (gd, bs d, 22)]) (fun j _ => 16 - (intOf j).toNat)
      case atStart => exact ⟨0, by omega, rfl, hS⟩
      case round =>
        clear hS
        obtain ⟨i, hi, rfl, hS⟩ := hrel
        by_cases hlti : i < 16
        · have hi32 : (i : Int) < 32 := by omega
          have hk32 : (k : Int) < 32 := by omega
          have hi16 : (i : Int) < 16 := by omega
          have hd1 : i < d.length := by rw [Hd.out]; omega
          have hd2 : i < (d.drop 16).length := by rw [List.length_drop, Hd.out]; omega
          have hA := half_len S d k i L1.out (by omega) (by omega)
          have hA' := half_len S d k (i + 1) L1.out (by omega) (by omega)
          have hB := half_len O (d.drop 16) k i L2.out (by omega) (by omega)
          have Hlen1 := Lib.hid (show k * 16 + i < (half S d k i ++ half O (d.drop 16) k i).length by rw [List.length_append, hA, hB]; omega)
          have Hlen2 := Lib.hid (show 512 + k * 16 + i < (half S d k (i + 1) ++ half O (d.drop 16) k i).length by rw [List.length_append, hA', hB]; omega)
          have Hset1 := Lib.hid (half_set1 S d k i (half O (d.drop 16) k i) L1.out hd1 (by omega))
          have h32 : 16 + i < d.length := by rw [Hd.out]; omega
          have Hset2 := Lib.hid (show (half S d k (i + 1) ++ half O (d.drop 16) k i).set (512 + k * 16 + i) (.int .u8 d[16 + i].toNat) = half S d k (i + 1) ++ half O (d.drop 16) k (i + 1) by
            have h := half_set2 (half S d k (i + 1)) O (d.drop 16) k i hA' L2.out hd2 (by omega)
            rw [List.getElem_drop] at h
            exact h)
          clear hA hA' hB
          have hc1 : wr.cell? ⟨gd, i, none⟩ = some (.int .u8 d[i].toNat) := by
            rw [cell_row (hS.get 3 rfl _ _ _ rfl)]
            simp [bs, B, hd1]
          go_wp2_with fail
          go_still_tail 8, (by kernel_rfl)
          change wpList _ _ _ _ _ (World.drew _)
          replace hS := hS.drew
          go_wp2_with (first | ((with_reducible show wpList _ _ _ (Oper.mk _ (Op.store _ _ _) _ _ _ _ :: _) _ _); refine wpl rfl ?_; refine owp_store1 hS 2 rfl rfl rfl rfl rfl Hlen1.out Hset1.out ?_; clear hS; intro w5 hS; try simp only [List.cons_append, List.nil_append, List.append_nil, List.set_cons_zero, List.set_cons_succ] at hS))
          have hc2 : w5.cell? ⟨gd, 16 + i, none⟩ = some (.int .u8 d[16 + i].toNat) := by
            rw [cell_row (hS.get 3 rfl _ _ _ rfl)]
            simp [bs, B, h32]
          have hw1 : IntKind.i64.wrap ((16 : Int) + i) = (16 : Int) + i := IntWalk.i64_in _ (by omega)
          have hw2 : ((16 : Int) + i).toNat = 16 + i := by omega
          have hw3 : (16 : Int) + i < 32 := by omega
          have hw4 : (0 : Int) ≤ (16 : Int) + i := by omega
          clear hc1
          simp only [Act.put]
          go_still_tail 9, (by kernel_rfl)
          change wpList _ _ _ _ _ (World.drew _)
          replace hS := hS.drew
          go_wp2_with (first | ((with_reducible show wpList _ _ _ (Oper.mk _ (Op.store _ _ _) _ _ _ _ :: _) _ _); refine wpl rfl ?_; refine owp_store1 hS 2 rfl rfl rfl rfl rfl Hlen2.out Hset2.out ?_; clear hS; intro w6 hS; try simp only [List.cons_append, List.nil_append, List.append_nil, List.set_cons_zero, List.set_cons_succ] at hS))
          go_roundw
          case rel => exact ⟨i + 1, by omega, by go_num, hS⟩
          case measure => simp [intOf]; omega
        · have hi16 : i = 16 := by omega
          subst hi16
          have hd16 : (d.drop 16).length = 16 := by rw [List.length_drop, Hd.out]
          have hS1 := hS.pick (L' := [rfBlk b u at2 s3.bad, some (gr, LSig.zero.cells, 63), some (gs, half S d k 16 ++ half O (d.drop 16) k 16, 63)]) [0, 1, 2] rfl (by decide)
          have e1 : half S d k 16 = half (S ++ d.take 16) [] (k + 1) 0 := by
            have := half_next S (d.take 16) k (by rw [List.length_take, Hd.out]; rfl)
            rw [← this]
            unfold half
            rw [List.take_take, Nat.min_self]
          rw [e1, half_next O (d.drop 16) k hd16, ← H1.out, ← H2.out] at hS1
          clear hS e1 hd16 hi hlti
          have hS := hS1
          clear hS1
          go_wp2_with fail
          go_roundw
          case rel => exact ⟨k + 1, at2, by omega, by go_num, by rw [Hst.out]; exact hS, by rw [Hst.out]; exact hat⟩
          case measure => simp [intOf]; omega
    · have hkn : k = 32 := by omega
      subst hkn
      have ht : takeLamp s = (⟨shownOf 32 s, otherOf 32 s⟩, (times PS.sum 32 s).2) := by simp only [takeLamp, shownOf, otherOf]
      have e1 : half (shownOf 32 s) [] 32 0 ++ half (otherOf 32 s) [] 32 0 = LSig.cells ⟨shownOf 32 s, otherOf 32 s⟩ := by simp [half, zb, LSig.cells]
      have Hlen := Lib.hid (show (LSig.cells ⟨shownOf 32 s, otherOf 32 s⟩).length = 1024 from LSig.len _ (shownOf_len 32 s) (otherOf_len 32 s))
      rw [e1] at hS
      have Ht := Lib.hid ht
      clear ht e1 hlt hk
      go_wp2_with (first | ((with_reducible show wpList _ _ _ (Oper.mk _ (Op.load _ _) _ _ _ _ :: _) _ _); refine wpl rfl ?_; refine (owp_loadW hS 2 rfl rfl rfl (Hlen.out) ?_)) | ((with_reducible show wpList _ _ _ (Oper.mk _ (Op.store _ _ _) _ _ _ _ :: _) _ _); refine wpl rfl ?_; refine (owp_storeW hS 1 rfl rfl rfl rfl (Hlen.out) (Hz.out) (LSig.one _) ?_); clear hS; intro _ hS; try simp only [List.cons_append, List.nil_append, List.append_nil, List.set_cons_zero, List.set_cons_succ] at hS))
      (try simp only [Exit.inBlock, Exit.then]); refine bodyPost_ret (res_cell rfl rfl hS 1 rfl (Hlen.out)) rfl ?_
      show RPost w b u l (.agg (takeLamp s).1.cells.toArray) (takeLamp s).2 _ _
      rw [Ht.out]
      exact ⟨rfl, at3, hS.pick [0] rfl (by decide), hat⟩

end Go.Proofs.Ytldmkafobbemjaa
namespace Go.Proofs.Ytldmkafobbemjaa
set_option linter.unusedSimpArgs false
set_option linter.unusedVariables false
open Go Go.RowKit
set_option maxRecDepth 100000
set_option maxHeartbeats 2000000

theorem build_sigR0 (w : World) : (Instr.build 66 #[]).run Try.prog w = .ok (.agg (Sig.zero.cells (.slice none 0 0)).toArray) w := by kernel_rfl
theorem Sig.set_key (l : LSig) (key x : Nat) (way : List (List UInt8)) (v : Value) (h : l.cells.length = 1024) : (Sig.cells ⟨l, key, way⟩ v).set 1024 (.int .u32 x) = Sig.cells ⟨l, x, way⟩ v := by
  simp [Sig.cells, List.set_append, h]

def RSigPost (w : World) (b : Nat) (u : Value) (l : List UInt8) (s : PS) (T : TypeId) (e : Ending) (w' : World) : Prop :=
  ∃ wv at' x, e = .returned (.agg ((takeSig s).1.cells wv).toArray) ∧ St w [b] w' [rfBlk b u at' (takeSig s).2.bad, x] ∧ RAt l at' (takeSig s).2 ∧
    RowV T 32 wv (takeSig s).1.way.length (wayCells (takeSig s).1.way) x


theorem rtakeSig_ok (b : Nat) (u : Value) (l : List UInt8) (at' : Nat) (s : PS) (w : World) (hb : Holds w (rfBlk b u at' s.bad)) (hu : URd w b u l) (hat : RAt l at' s) :
    Calls Try.prog 48 #[.pointer (some ⟨b, 0, none⟩)] w (RSigPost w b u l s 22) := by
  have hS := rf_start hb
  have Hz := Lib.hid lzero_len
  go_enter Try.func48, Try.ntmps48
  go_wp2_with (first | ((with_reducible show wpList _ _ _ (Oper.mk (some 2) (Op.alloc _) _ _ _ _ :: _) _ _); refine wpl rfl ?_; refine (owp_allocAt hS 2 rfl rfl ?_); clear hS; intro gr _ hS; simp only [List.cons_append, List.nil_append] at hS) | ((with_reducible show wpList _ _ _ (Oper.mk (some 3) (Op.alloc _) _ _ _ _ :: _) _ _); refine wpl rfl ?_; refine (owp_allocAt hS 3 rfl rfl ?_); clear hS; intro gs _ hS; simp only [List.cons_append, List.nil_append] at hS))
  refine (rnum_ok 4 (by omega) (by omega) b u l _ _ _ (hS.get 0 rfl) (hu.st hS) hat).mono ?_; rintro e w1 ⟨rfl, at2, hc, hat2⟩; replace hS := hS.call1 0 rfl hc; try simp only [List.cons_append, List.nil_append, List.append_nil, List.set_cons_zero, List.set_cons_succ] at hS; clear hc hat; have hat := hat2; clear hat2
  have h4 := num4_lt s
  go_wp2_with (first | ((with_reducible show wpList _ _ _ (Oper.mk _ (Op.store _ _ _) _ _ _ _ :: _) _ _); refine wpl rfl ?_; refine owp_store1 hS 2 rfl rfl rfl rfl rfl (by rw [Sig.len _ _ Hz.out]; omega) (Sig.set_key LSig.zero _ _ [] _ Hz.out) ?_; clear hS; intro _ hS; try simp only [List.cons_append, List.nil_append, List.append_nil, List.set_cons_zero, List.set_cons_succ] at hS))
  refine (rmany_ok 8 (by omega) b u l _ _ _ (hS.get 0 rfl) (hu.st hS) hat).mono ?_; rintro e w1 ⟨rfl, at2, hc, hat2⟩; replace hS := hS.call1 0 rfl hc; try simp only [List.cons_append, List.nil_append, List.append_nil, List.set_cons_zero, List.set_cons_succ] at hS; clear hc hat; have hat := hat2; clear hat2
  have hn := many_le 8 (s.num 4).2
  go_wp2_with fail
  refine (rtakeLamp_ok b u l _ _ _ (hS.get 0 rfl) (hu.st hS) hat).mono ?_; rintro e w1 ⟨rfl, at2, hc, hat2⟩; replace hS := hS.call1 0 rfl hc; try simp only [List.cons_append, List.nil_append, List.append_nil, List.set_cons_zero, List.set_cons_succ] at hS; clear hc hat; have hat := hat2; clear hat2
  have Hl := Lib.hid (takeLamp_len ((s.num 4).2.many 8).2)
  go_wp2_with (first | ((with_reducible show wpList _ _ _ (Oper.mk _ (Op.store _ _ _) _ _ _ _ :: _) _ _); refine wpl rfl ?_; refine owp_store hS 2 rfl rfl rfl rfl Hl.out (by rw [Sig.len _ _ Hz.out]; omega) (LSig.one _) (Sig.set_l _ _ _ _ _ Hz.out) ?_; clear hS; intro _ hS; try simp only [List.cons_append, List.nil_append, List.append_nil, List.set_cons_zero, List.set_cons_succ] at hS))
  have ht : takeSig s = (if (times PS.sum ((s.num 4).2.many 8).1 (takeLamp ((s.num 4).2.many 8).2).2).2.bad ≠ 0 then Sig.zero else ⟨(takeLamp ((s.num 4).2.many 8).2).1, (s.num 4).1, (times PS.sum ((s.num 4).2.many 8).1 (takeLamp ((s.num 4).2.many 8).2).2).1⟩, (times PS.sum ((s.num 4).2.many 8).1 (takeLamp ((s.num 4).2.many 8).2).2).2) := rfl
  have Ht := Lib.hid ht
  clear ht
  generalize ((s.num 4).2.many 8).1 = n at *
  generalize (takeLamp ((s.num 4).2.many 8).2).1 = lp at *
  generalize (takeLamp ((s.num 4).2.many 8).2).2 = s1 at *
  generalize (s.num 4).1 = key at *
  go_wp2_with fail
  go_loopw [5] (fun i wr => ∃ (k v' : Nat) (wv : Value) (x : Ent), k ≤ n ∧ i = .int .i64 k ∧ RowV 22 32 wv k (wayCells (times PS.sum k s1).1) x ∧
      St w [b] wr [rfBlk b u v' (times PS.sum k s1).2.bad, some (gr, Sig.zero.cells (.slice none 0 0), 66), some (gs, Sig.cells ⟨lp, key, []⟩ wv, 66), x] ∧ RAt l v' (times PS.sum k s1).2) (fun i _ => n - (intOf i).toNat)
  case atStart => exact ⟨0, at2, .slice none 0 0, none, Nat.zero_le _, rfl, by rw [times_zero]; exact RowV.nil _ _, by rw [times_zero]; exact hS.addNone, by rw [times_zero]; exact hat⟩
  case round =>
    clear hS hat
    obtain ⟨k, v', wv, x, hk, rfl, hrow, hS, hat⟩ := hrel
    by_cases hlt : k < n
    · have Hstep := Lib.hid (times_succ PS.sum k s1)
      generalize (times PS.sum k s1).1 = way at *
      generalize (times PS.sum k s1).2 = s2 at *
      obtain ⟨a0, c0, rfl⟩ := hrow.isSl
      have h63 : k + 1 ≤ maxLen := by unfold maxLen; omega
      have hby : (k + 1) * 32 ≤ 140737488355328 := by omega
      have Hd := Lib.hid (sum_len s2)
      have hdl : (bs s2.sum.1).length = 32 := by rw [bs_length, Hd.out]
      have Hdl := Lib.hid hdl
      clear hdl
      go_wp2_with fail
      have hsh : (bs (s2.sum.1)).length = 32 := Hdl.out
      replace hS := hS.drew
      refine wp_region_any (by kernel_rfl) ?_; change wpAny _ _ _ _ _ _ _ (World.drew _)
      refine rtake (i := 0) (v := .pointer (some ⟨gs, 1025, none⟩)) rfl (by kernel_rfl) (by kernel_rfl) (by kernel_rfl) (fun _ _ _ h => h) (Or.inl ⟨by rfl, by (intro w; go_simp; try with_reducible rfl)⟩) ?_; simp only [Act.put, List.setIfInBounds_toArray, List.set_cons_succ, List.set_cons_zero]
      refine rtake (i := 2) (v := .pointer (some ⟨b, 0, none⟩)) rfl (by kernel_rfl) (by kernel_rfl) (by kernel_rfl) (fun _ _ _ h => h) (Or.inl ⟨by rfl, by (intro w; go_simp; try with_reducible rfl)⟩) ?_; simp only [Act.put, List.setIfInBounds_toArray, List.set_cons_succ, List.set_cons_zero]
      refine wpAny_ready (rs := [1, 3]) (by kernel_rfl) (by simp) ?_
      refine rcons rfl rfl (fun K hK => ?_) ?_
      · refine owp_load1 hS 2 rfl rfl rfl (Sig.get_way _ _ Hl.out) ?_
        refine hK _ _ ?_; clear hK K; simp only [Act.put, List.setIfInBounds_toArray, List.set_cons_succ, List.set_cons_zero]
        refine wpAny_ready (rs := [3]) (by kernel_rfl) (by simp) ?_
        refine rcons rfl rfl (fun K hK => ?_) ?_
        · refine owp_call rfl (by kernel_rfl) rfl (rsum_ok b u l _ _ _ (hS.get 0 rfl) (hu.st hS) hat) ?_
          rintro e w2 ⟨rfl, v3, hc, hat2⟩
          replace hS := hS.call1 0 rfl hc
          try simp only [List.cons_append, List.nil_append, List.append_nil, List.set_cons_zero, List.set_cons_succ] at hS
          clear hc hat
          have hat := hat2
          clear hat2
          refine ⟨_, rfl, ?_⟩
          refine hK _ _ ?_; clear hK K; simp only [Act.put, List.setIfInBounds_toArray, List.set_cons_succ, List.set_cons_zero]
          refine wpAny_ready (rs := [4]) (by kernel_rfl) (by simp) ?_
          refine rcons rfl rfl (fun K hK => ?_) ?_
          · refine owp_bslice1 (vs := bs s2.sum.1) hS rfl rfl Hdl.out (by decide) ?_
            clear hS
            intro gl _ hS
            try simp only [List.cons_append, List.nil_append, List.append_nil, List.set_cons_zero, List.set_cons_succ] at hS
            refine hK _ _ ?_; clear hK K; simp only [Act.put, List.setIfInBounds_toArray, List.set_cons_succ, List.set_cons_zero]
            refine wpAny_ready (rs := [5]) (by kernel_rfl) (by simp) ?_
            refine rcons rfl rfl (fun K hK => ?_) ?_
            · refine owp_append hS 3 rfl rfl rfl hrow rfl ((RowV.lit 22 32 _ 1 _ (by rw [Hdl.out]) (by decide)).read (hS.get 4 rfl)) (bs_one _) h63 hby ?_
              clear hS hrow
              intro v4 x4 _ hrow hS _
              obtain ⟨a4, c4, rfl⟩ := hrow.isSl
              try simp only [List.cons_append, List.nil_append, List.append_nil, List.set_cons_zero, List.set_cons_succ] at hS
              refine hK _ _ ?_; clear hK K; simp only [Act.put, List.setIfInBounds_toArray, List.set_cons_succ, List.set_cons_zero]
              refine rtake (i := 6) (v := .pointer (some ⟨gs, 1025, none⟩)) rfl (by kernel_rfl) (by kernel_rfl) (by kernel_rfl) (fun _ _ _ h => h) (Or.inl ⟨by rfl, by (intro w; go_simp; try with_reducible rfl)⟩) ?_; simp only [Act.put, List.setIfInBounds_toArray, List.set_cons_succ, List.set_cons_zero]
              refine wpAny_ready (rs := [7]) (by kernel_rfl) (by simp) ?_
              refine rcons rfl rfl (fun K hK => ?_) ?_
              · refine owp_store1 hS 2 rfl rfl rfl rfl rfl (by rw [Sig.len _ _ Hl.out]; omega) (Sig.set_way _ _ _ [] _ _ Hl.out) ?_
                clear hS
                intro _ hS
                try simp only [List.cons_append, List.nil_append, List.append_nil, List.set_cons_zero, List.set_cons_succ] at hS
                refine hK _ _ ?_; clear hK K; simp only [Act.put, List.setIfInBounds_toArray, List.set_cons_succ, List.set_cons_zero]
                refine wpAny_done (by kernel_rfl) ?_ _
                go_wp2_with fail
                go_roundw
                case rel =>
                  refine ⟨k + 1, v3, .slice a4 (k + 1) c4, x4, by omega, by go_num, ?_, ?_, ?_⟩
                  · rw [Hstep.out, wayCells_snoc]; exact hrow
                  · rw [Hstep.out]; exact hS.pick [0, 1, 2, 3] rfl (by decide)
                  · rw [Hstep.out]; exact hat
                case measure => simp [intOf]; omega
              · exact AllReady.nil
            · exact AllReady.nil
          · exact AllReady.nil
        · exact AllReady.nil
      · refine rcons rfl rfl (fun K hK => ?_) ?_
        · refine owp_call rfl (by kernel_rfl) rfl (rsum_ok b u l _ _ _ (hS.get 0 rfl) (hu.st hS) hat) ?_
          rintro e w2 ⟨rfl, v3, hc, hat2⟩
          replace hS := hS.call1 0 rfl hc
          try simp only [List.cons_append, List.nil_append, List.append_nil, List.set_cons_zero, List.set_cons_succ] at hS
          clear hc hat
          have hat := hat2
          clear hat2
          refine ⟨_, rfl, ?_⟩
          refine hK _ _ ?_; clear hK K; simp only [Act.put, List.setIfInBounds_toArray, List.set_cons_succ, List.set_cons_zero]
          refine wpAny_ready (rs := [1, 4]) (by kernel_rfl) (by simp) ?_
          refine rcons rfl rfl (fun K hK => ?_) ?_
          · refine owp_load1 hS 2 rfl rfl rfl (Sig.get_way _ _ Hl.out) ?_
            refine hK _ _ ?_; clear hK K; simp only [Act.put, List.setIfInBounds_toArray, List.set_cons_succ, List.set_cons_zero]
            refine wpAny_ready (rs := [4]) (by kernel_rfl) (by simp) ?_
            refine rcons rfl rfl (fun K hK => ?_) ?_
            · refine owp_bslice1 (vs := bs s2.sum.1) hS rfl rfl Hdl.out (by decide) ?_
              clear hS
              intro gl _ hS
              try simp only [List.cons_append, List.nil_append, List.append_nil, List.set_cons_zero, List.set_cons_succ] at hS
              refine hK _ _ ?_; clear hK K; simp only [Act.put, List.setIfInBounds_toArray, List.set_cons_succ, List.set_cons_zero]
              refine wpAny_ready (rs := [5]) (by kernel_rfl) (by simp) ?_
              refine rcons rfl rfl (fun K hK => ?_) ?_
              · refine owp_append hS 3 rfl rfl rfl hrow rfl ((RowV.lit 22 32 _ 1 _ (by rw [Hdl.out]) (by decide)).read (hS.get 4 rfl)) (bs_one _) h63 hby ?_
                clear hS hrow
                intro v4 x4 _ hrow hS _
                obtain ⟨a4, c4, rfl⟩ := hrow.isSl
                try simp only [List.cons_append, List.nil_append, List.append_nil, List.set_cons_zero, List.set_cons_succ] at hS
                refine hK _ _ ?_; clear hK K; simp only [Act.put, List.setIfInBounds_toArray, List.set_cons_succ, List.set_cons_zero]
                refine rtake (i := 6) (v := .pointer (some ⟨gs, 1025, none⟩)) rfl (by kernel_rfl) (by kernel_rfl) (by kernel_rfl) (fun _ _ _ h => h) (Or.inl ⟨by rfl, by (intro w; go_simp; try with_reducible rfl)⟩) ?_; simp only [Act.put, List.setIfInBounds_toArray, List.set_cons_succ, List.set_cons_zero]
                refine wpAny_ready (rs := [7]) (by kernel_rfl) (by simp) ?_
                refine rcons rfl rfl (fun K hK => ?_) ?_
                · refine owp_store1 hS 2 rfl rfl rfl rfl rfl (by rw [Sig.len _ _ Hl.out]; omega) (Sig.set_way _ _ _ [] _ _ Hl.out) ?_
                  clear hS
                  intro _ hS
                  try simp only [List.cons_append, List.nil_append, List.append_nil, List.set_cons_zero, List.set_cons_succ] at hS
                  refine hK _ _ ?_; clear hK K; simp only [Act.put, List.setIfInBounds_toArray, List.set_cons_succ, List.set_cons_zero]
                  refine wpAny_done (by kernel_rfl) ?_ _
                  go_wp2_with fail
                  go_roundw
                  case rel =>
                    refine ⟨k + 1, v3, .slice a4 (k + 1) c4, x4, by omega, by go_num, ?_, ?_, ?_⟩
                    · rw [Hstep.out, wayCells_snoc]; exact hrow
                    · rw [Hstep.out]; exact hS.pick [0, 1, 2, 3] rfl (by decide)
                    · rw [Hstep.out]; exact hat
                  case measure => simp [intOf]; omega
                · exact AllReady.nil
              · exact AllReady.nil
            · exact AllReady.nil
          · refine rcons rfl rfl (fun K hK => ?_) ?_
            · refine owp_bslice1 (vs := bs s2.sum.1) hS rfl rfl Hdl.out (by decide) ?_
              clear hS
              intro gl _ hS
              try simp only [List.cons_append, List.nil_append, List.append_nil, List.set_cons_zero, List.set_cons_succ] at hS
              refine hK _ _ ?_; clear hK K; simp only [Act.put, List.setIfInBounds_toArray, List.set_cons_succ, List.set_cons_zero]
              refine wpAny_ready (rs := [1]) (by kernel_rfl) (by simp) ?_
              refine rcons rfl rfl (fun K hK => ?_) ?_
              · refine owp_load1 hS 2 rfl rfl rfl (Sig.get_way _ _ Hl.out) ?_
                refine hK _ _ ?_; clear hK K; simp only [Act.put, List.setIfInBounds_toArray, List.set_cons_succ, List.set_cons_zero]
                refine wpAny_ready (rs := [5]) (by kernel_rfl) (by simp) ?_
                refine rcons rfl rfl (fun K hK => ?_) ?_
                · refine owp_append hS 3 rfl rfl rfl hrow rfl ((RowV.lit 22 32 _ 1 _ (by rw [Hdl.out]) (by decide)).read (hS.get 4 rfl)) (bs_one _) h63 hby ?_
                  clear hS hrow
                  intro v4 x4 _ hrow hS _
                  obtain ⟨a4, c4, rfl⟩ := hrow.isSl
                  try simp only [List.cons_append, List.nil_append, List.append_nil, List.set_cons_zero, List.set_cons_succ] at hS
                  refine hK _ _ ?_; clear hK K; simp only [Act.put, List.setIfInBounds_toArray, List.set_cons_succ, List.set_cons_zero]
                  refine rtake (i := 6) (v := .pointer (some ⟨gs, 1025, none⟩)) rfl (by kernel_rfl) (by kernel_rfl) (by kernel_rfl) (fun _ _ _ h => h) (Or.inl ⟨by rfl, by (intro w; go_simp; try with_reducible rfl)⟩) ?_; simp only [Act.put, List.setIfInBounds_toArray, List.set_cons_succ, List.set_cons_zero]
                  refine wpAny_ready (rs := [7]) (by kernel_rfl) (by simp) ?_
                  refine rcons rfl rfl (fun K hK => ?_) ?_
                  · refine owp_store1 hS 2 rfl rfl rfl rfl rfl (by rw [Sig.len _ _ Hl.out]; omega) (Sig.set_way _ _ _ [] _ _ Hl.out) ?_
                    clear hS
                    intro _ hS
                    try simp only [List.cons_append, List.nil_append, List.append_nil, List.set_cons_zero, List.set_cons_succ] at hS
                    refine hK _ _ ?_; clear hK K; simp only [Act.put, List.setIfInBounds_toArray, List.set_cons_succ, List.set_cons_zero]
                    refine wpAny_done (by kernel_rfl) ?_ _
                    go_wp2_with fail
                    go_roundw
                    case rel =>
                      refine ⟨k + 1, v3, .slice a4 (k + 1) c4, x4, by omega, by go_num, ?_, ?_, ?_⟩
                      · rw [Hstep.out, wayCells_snoc]; exact hrow
                      · rw [Hstep.out]; exact hS.pick [0, 1, 2, 3] rfl (by decide)
                      · rw [Hstep.out]; exact hat
                    case measure => simp [intOf]; omega
                  · exact AllReady.nil
                · exact AllReady.nil
              · exact AllReady.nil
            · exact AllReady.nil
        · exact AllReady.nil
    · have hkn : k = n := by omega
      subst hkn
      have Hlen := Lib.hid (times_len PS.sum k s1)
      generalize (times PS.sum k s1).1 = way at *
      generalize (times PS.sum k s1).2 = s2 at *
      obtain ⟨a0, c0, rfl⟩ := hrow.isSl
      by_cases hbad : s2.bad = 0
      · have hb1 : (s2.bad != 0) = false := by simpa using hbad
        have Hbad := Lib.hid hbad
        clear hbad
        go_wp2_with (first | ((with_reducible show wpList _ _ _ (Oper.mk _ (Op.load _ _) _ _ _ _ :: _) _ _); refine wpl rfl ?_; refine (owp_load1 hS 0 rfl rfl rfl rfl ?_)) | ((with_reducible show wpList _ _ _ (Oper.mk _ (Op.load _ _) _ _ _ _ :: _) _ _); refine wpl rfl ?_; refine (owp_loadW hS 2 rfl rfl rfl (Sig.len _ _ Hl.out) ?_)) | ((with_reducible show wpList _ _ _ (Oper.mk _ (Op.store _ _ _) _ _ _ _ :: _) _ _); refine wpl rfl ?_; refine (owp_storeW hS 1 rfl rfl rfl rfl (Sig.len _ _ Hl.out) (Sig.len Sig.zero _ Hz.out) (Sig.one _ _ rfl) ?_); clear hS; intro _ hS; try simp only [List.cons_append, List.nil_append, List.append_nil, List.set_cons_zero, List.set_cons_succ] at hS))
        (try simp only [Exit.inBlock, Exit.then]); refine bodyPost_ret (res_cell rfl rfl hS 1 rfl (Sig.len _ _ Hl.out)) rfl ?_
        refine ⟨.slice a0 k c0, v', x, ?_, ?_, ?_, ?_⟩
        · rw [Ht.out, if_neg (by simpa using Hbad.out)]; rfl
        · rw [Ht.out]; exact hS.pick [0, 3] rfl (by decide)
        · rw [Ht.out]; exact hat
        · rw [Ht.out, if_neg (by simpa using Hbad.out), Hlen.out]; exact hrow
      · have hb1 : (s2.bad != 0) = true := by simpa using hbad
        have Hbad := Lib.hid hbad
        clear hbad
        go_wp2_with (first | ((with_reducible show wpList _ _ _ (Oper.mk _ (Op.load _ _) _ _ _ _ :: _) _ _); refine wpl rfl ?_; refine (owp_load1 hS 0 rfl rfl rfl rfl ?_)) | ((with_reducible show wpList _ _ _ (Oper.mk _ (Op.build _ _) _ _ _ _ :: _) _ _); refine wpl rfl ?_; refine owp_build rfl [] rfl (build_sigR0 _) ?_) | ((with_reducible show wpList _ _ _ (Oper.mk _ (Op.store _ _ _) _ _ _ _ :: _) _ _); refine wpl rfl ?_; refine (owp_storeW hS 1 rfl rfl rfl rfl (Sig.len Sig.zero _ Hz.out) (Sig.len Sig.zero _ Hz.out) (Sig.one _ _ rfl) ?_); clear hS; intro _ hS; try simp only [List.cons_append, List.nil_append, List.append_nil, List.set_cons_zero, List.set_cons_succ] at hS))
        (try simp only [Exit.inBlock, Exit.then]); refine bodyPost_ret (res_cell rfl rfl hS 1 rfl (Sig.len Sig.zero _ Hz.out)) rfl ?_
        refine ⟨.slice none 0 0, v', none, ?_, ?_, ?_, ?_⟩
        · rw [Ht.out, if_pos (by simpa using Hbad.out)]
        · rw [Ht.out]; exact (hS.pick [0] rfl (by decide)).addNone
        · rw [Ht.out]; exact hat
        · rw [Ht.out, if_pos (by simpa using Hbad.out)]; exact RowV.nil _ _

end Go.Proofs.Ytldmkafobbemjaa
namespace Go.Proofs.Ytldmkafobbemjaa
set_option linter.unusedSimpArgs false
set_option linter.unusedVariables false
open Go Go.RowKit
set_option maxRecDepth 100000
set_option maxHeartbeats 2000000

theorem gd_opR : Try.prog.eqGuardType Try.prog.depth 93 = false := by kernel_rfl
theorem gd_lsigR : Try.prog.eqGuardType Try.prog.depth 63 = false := by kernel_rfl
theorem build_lsigR0 (w : World) : (Instr.build 63 #[]).run Try.prog w = .ok (.agg LSig.zero.cells.toArray) w := by kernel_rfl

end Go.Proofs.Ytldmkafobbemjaa
namespace Go.Proofs.Ytldmkafobbemjaa
set_option linter.unusedSimpArgs false
set_option linter.unusedVariables false
open Go Go.RowKit
set_option maxRecDepth 100000
set_option maxHeartbeats 2000000

theorem build_in (a : Option Addr) (n c : Nat) (w : World) : (Instr.build 76 #[(0, .slice a n c)]).run Try.prog w = .ok (.agg [Value.slice a n c, .int .i64 0, .int .i64 0].toArray) w := by kernel_rfl
theorem Memo.set_kind (k : Int) (c r : Nat) (o : Oop) (t : List Hop) (s : Sig) (tv wv : Value) (k' : Int) : (Memo.cells ⟨k, c, r, o, t, s⟩ tv wv).set 0 (.int .i64 k') = Memo.cells ⟨k', c, r, o, t, s⟩ tv wv := rfl
theorem Memo.set_channel (k : Int) (c r : Nat) (o : Oop) (t : List Hop) (s : Sig) (tv wv : Value) (c' : Nat) : (Memo.cells ⟨k, c, r, o, t, s⟩ tv wv).set 1 (.int .u32 c') = Memo.cells ⟨k, c', r, o, t, s⟩ tv wv := rfl

end Go.Proofs.Ytldmkafobbemjaa
