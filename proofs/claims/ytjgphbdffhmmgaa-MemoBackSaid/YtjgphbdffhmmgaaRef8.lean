/-
  A ring's signature, as it is taken off bytes by the document.
-/
import Derived.Test.YtjgphbdffhmmgaaRef7
namespace Go.Proofs.Ytjgphbdffhmmgaa
set_option linter.unusedSimpArgs false
set_option linter.unusedVariables false
open Go Go.RowKit
set_option maxRecDepth 100000
set_option maxHeartbeats 2000000

theorem build_sigR0 (w : World) : (Instr.build 58 #[]).run Try.prog w = .ok (.agg (Sig.zero.cells (.slice none 0 0)).toArray) w := by kernel_rfl
theorem Sig.set_key (l : LSig) (key x : Nat) (way : List (List UInt8)) (v : Value) (h : l.cells.length = 1024) : (Sig.cells ⟨l, key, way⟩ v).set 1024 (.int .u32 x) = Sig.cells ⟨l, x, way⟩ v := by
  simp [Sig.cells, List.set_append, h]

def RSigPost (w : World) (b : Nat) (u : Value) (l : List UInt8) (s : PS) (T : TypeId) (e : Ending) (w' : World) : Prop :=
  ∃ wv at' x, e = .returned (.agg ((takeSig s).1.cells wv).toArray) ∧ St w [b] w' [rfBlk b u at' (takeSig s).2.bad, x] ∧ RAt l at' (takeSig s).2 ∧
    RowV T 32 wv (takeSig s).1.way.length (wayCells (takeSig s).1.way) x


theorem rtakeSig_ok (b : Nat) (u : Value) (l : List UInt8) (at' : Nat) (s : PS) (w : World) (hb : Holds w (rfBlk b u at' s.bad)) (hu : URd w b u l) (hat : RAt l at' s) :
    Calls Try.prog 29 #[.pointer (some ⟨b, 0, none⟩)] w (RSigPost w b u l s 27) := by
  have hS := rf_start hb
  have Hz := Lib.hid lzero_len
  go_enter Try.func29, Try.ntmps29
  go_wp2_with (first | ((with_reducible show wpList _ _ _ (Oper.mk (some 2) (Op.alloc _) _ _ _ _ :: _) _ _); refine wpl rfl ?_; refine (owp_allocAt hS 2 rfl rfl ?_); clear hS; intro gr _ hS; simp only [List.cons_append, List.nil_append] at hS) | ((with_reducible show wpList _ _ _ (Oper.mk (some 3) (Op.alloc _) _ _ _ _ :: _) _ _); refine wpl rfl ?_; refine (owp_allocAt hS 3 rfl rfl ?_); clear hS; intro gs _ hS; simp only [List.cons_append, List.nil_append] at hS))
  refine (rnum_ok 4 (by omega) (by omega) b u l _ _ _ (hS.get 0 rfl) (hu.st hS) hat).mono ?_; rintro e w1 ⟨rfl, at2, hc, hat2⟩; replace hS := hS.call1 0 rfl hc; try simp only [List.cons_append, List.nil_append, List.append_nil, List.set_cons_zero, List.set_cons_succ] at hS; clear hc hat; have hat := hat2; clear hat2
  have h4 := num4_lt s
  go_wp2_with (first | ((with_reducible show wpList _ _ _ (Oper.mk _ (Op.store _ _ _) _ _ _ _ :: _) _ _); refine wpl rfl ?_; refine owp_store1 hS 2 rfl rfl rfl rfl rfl (by rw [Sig.len _ _ Hz.out]; omega) (Sig.set_key LSig.zero _ _ [] _ Hz.out) ?_; clear hS; intro _ hS; try simp only [List.cons_append, List.nil_append, List.append_nil, List.set_cons_zero, List.set_cons_succ] at hS))
  refine (rmany_ok 8 (by omega) b u l _ _ _ (hS.get 0 rfl) (hu.st hS) hat).mono ?_; rintro e w1 ⟨rfl, at2, hc, hat2⟩; replace hS := hS.call1 0 rfl hc; try simp only [List.cons_append, List.nil_append, List.append_nil, List.set_cons_zero, List.set_cons_succ] at hS; clear hc hat; have hat := hat2; clear hat2
  have hn := many_le 8 (s.num 4).2
  go_wp2_with fail
  refine (rtakeLamp_ok b u l _ _ _ (hS.get 0 rfl) (hu.st hS) hat).mono ?_; rintro e w1 ⟨rfl, at2, hc, hat2⟩; replace hS := hS.call1 0 rfl hc; try simp only [List.cons_append, List.nil_append, List.append_nil, List.set_cons_zero, List.set_cons_succ] at hS; clear hc hat; have hat := hat2; clear hat2
  have Hl := Lib.hid (takeLamp_len ((s.num 4).2.many 8).2)
  go_wp2_with (first | ((with_reducible show wpList _ _ _ (Oper.mk _ (Op.store _ _ _) _ _ _ _ :: _) _ _); refine wpl rfl ?_; refine owp_store hS 2 rfl rfl rfl rfl Hl.out (by rw [Sig.len _ _ Hz.out]; omega) (LSig.one _) (Sig.set_l _ _ _ _ _ Hz.out) ?_; clear hS; intro _ hS; try simp only [List.cons_append, List.nil_append, List.append_nil, List.set_cons_zero, List.set_cons_succ] at hS))
  have ht : takeSig s = (if (times PS.sum ((s.num 4).2.many 8).1 (takeLamp ((s.num 4).2.many 8).2).2).2.bad ≠ 0 then Sig.zero else ⟨(takeLamp ((s.num 4).2.many 8).2).1, (s.num 4).1, (times PS.sum ((s.num 4).2.many 8).1 (takeLamp ((s.num 4).2.many 8).2).2).1⟩, (times PS.sum ((s.num 4).2.many 8).1 (takeLamp ((s.num 4).2.many 8).2).2).2) := rfl
  have Ht := Lib.hid ht
  clear ht
  generalize ((s.num 4).2.many 8).1 = n at *
  generalize (takeLamp ((s.num 4).2.many 8).2).1 = lp at *
  generalize (takeLamp ((s.num 4).2.many 8).2).2 = s1 at *
  generalize (s.num 4).1 = key at *
  go_wp2_with fail
  go_loopw [5] (fun i wr => ∃ (k v' : Nat) (wv : Value) (x : Ent), k ≤ n ∧ i = .int .i64 k ∧ RowV 27 32 wv k (wayCells (times PS.sum k s1).1) x ∧
      St w [b] wr [rfBlk b u v' (times PS.sum k s1).2.bad, some (gr, Sig.zero.cells (.slice none 0 0), 58), some (gs, Sig.cells ⟨lp, key, []⟩ wv, 58), x] ∧ RAt l v' (times PS.sum k s1).2) (fun i _ => n - (intOf i).toNat)
  case atStart => exact ⟨0, at2, .slice none 0 0, none, Nat.zero_le _, rfl, by rw [times_zero]; exact RowV.nil _ _, by rw [times_zero]; exact hS.addNone, by rw [times_zero]; exact hat⟩
  case round =>
    clear hS hat
    obtain ⟨k, v', wv, x, hk, rfl, hrow, hS, hat⟩ := hrel
    by_cases hlt : k < n
    · have Hstep := Lib.hid (times_succ PS.sum k s1)
      generalize (times PS.sum k s1).1 = way at *
      generalize (times PS.sum k s1).2 = s2 at *
      obtain ⟨a0, c0, rfl⟩ := hrow.isSl
      have h63 : k + 1 ≤ maxLen := by unfold maxLen; omega
      have hby : (k + 1) * 32 ≤ 140737488355328 := by omega
      have Hd := Lib.hid (sum_len s2)
      have hdl : (bs s2.sum.1).length = 32 := by rw [bs_length, Hd.out]
      have Hdl := Lib.hid hdl
      clear hdl
      go_wp2_with fail
      have hsh : (bs (s2.sum.1)).length = 32 := Hdl.out
      replace hS := hS.drew
      refine wp_region_any (by kernel_rfl) ?_; change wpAny _ _ _ _ _ _ _ (World.drew _)
      refine rtake (i := 0) (v := .pointer (some ⟨gs, 1025, none⟩)) rfl (by kernel_rfl) (by kernel_rfl) (by kernel_rfl) (fun _ _ _ h => h) (Or.inl ⟨by rfl, by (intro w; go_simp; try with_reducible rfl)⟩) ?_; simp only [Act.put, List.setIfInBounds_toArray, List.set_cons_succ, List.set_cons_zero]
      refine rtake (i := 2) (v := .pointer (some ⟨b, 0, none⟩)) rfl (by kernel_rfl) (by kernel_rfl) (by kernel_rfl) (fun _ _ _ h => h) (Or.inl ⟨by rfl, by (intro w; go_simp; try with_reducible rfl)⟩) ?_; simp only [Act.put, List.setIfInBounds_toArray, List.set_cons_succ, List.set_cons_zero]
      refine wpAny_ready (rs := [1, 3]) (by kernel_rfl) (by simp) ?_
      refine rcons rfl rfl (fun K hK => ?_) ?_
      · refine owp_load1 hS 2 rfl rfl rfl (Sig.get_way _ _ Hl.out) ?_
        refine hK _ _ ?_; clear hK K; simp only [Act.put, List.setIfInBounds_toArray, List.set_cons_succ, List.set_cons_zero]
        refine wpAny_ready (rs := [3]) (by kernel_rfl) (by simp) ?_
        refine rcons rfl rfl (fun K hK => ?_) ?_
        · refine owp_call rfl (by kernel_rfl) rfl (rsum_ok b u l _ _ _ (hS.get 0 rfl) (hu.st hS) hat) ?_
          rintro e w2 ⟨rfl, v3, hc, hat2⟩
          replace hS := hS.call1 0 rfl hc
          try simp only [List.cons_append, List.nil_append, List.append_nil, List.set_cons_zero, List.set_cons_succ] at hS
          clear hc hat
          have hat := hat2
          clear hat2
          refine ⟨_, rfl, ?_⟩
          refine hK _ _ ?_; clear hK K; simp only [Act.put, List.setIfInBounds_toArray, List.set_cons_succ, List.set_cons_zero]
          refine wpAny_ready (rs := [4]) (by kernel_rfl) (by simp) ?_
          refine rcons rfl rfl (fun K hK => ?_) ?_
          · refine owp_bslice1 (vs := bs s2.sum.1) hS rfl rfl Hdl.out (by decide) ?_
            clear hS
            intro gl _ hS
            try simp only [List.cons_append, List.nil_append, List.append_nil, List.set_cons_zero, List.set_cons_succ] at hS
            refine hK _ _ ?_; clear hK K; simp only [Act.put, List.setIfInBounds_toArray, List.set_cons_succ, List.set_cons_zero]
            refine wpAny_ready (rs := [5]) (by kernel_rfl) (by simp) ?_
            refine rcons rfl rfl (fun K hK => ?_) ?_
            · refine owp_append hS 3 rfl rfl rfl hrow rfl ((RowV.lit 27 32 _ 1 _ (by rw [Hdl.out]) (by decide)).read (hS.get 4 rfl)) (bs_one _) h63 hby ?_
              clear hS hrow
              intro v4 x4 _ hrow hS _
              obtain ⟨a4, c4, rfl⟩ := hrow.isSl
              try simp only [List.cons_append, List.nil_append, List.append_nil, List.set_cons_zero, List.set_cons_succ] at hS
              refine hK _ _ ?_; clear hK K; simp only [Act.put, List.setIfInBounds_toArray, List.set_cons_succ, List.set_cons_zero]
              refine rtake (i := 6) (v := .pointer (some ⟨gs, 1025, none⟩)) rfl (by kernel_rfl) (by kernel_rfl) (by kernel_rfl) (fun _ _ _ h => h) (Or.inl ⟨by rfl, by (intro w; go_simp; try with_reducible rfl)⟩) ?_; simp only [Act.put, List.setIfInBounds_toArray, List.set_cons_succ, List.set_cons_zero]
              refine wpAny_ready (rs := [7]) (by kernel_rfl) (by simp) ?_
              refine rcons rfl rfl (fun K hK => ?_) ?_
              · refine owp_store1 hS 2 rfl rfl rfl rfl rfl (by rw [Sig.len _ _ Hl.out]; omega) (Sig.set_way _ _ _ [] _ _ Hl.out) ?_
                clear hS
                intro _ hS
                try simp only [List.cons_append, List.nil_append, List.append_nil, List.set_cons_zero, List.set_cons_succ] at hS
                refine hK _ _ ?_; clear hK K; simp only [Act.put, List.setIfInBounds_toArray, List.set_cons_succ, List.set_cons_zero]
                refine wpAny_done (by kernel_rfl) ?_ _
                go_wp2_with fail
                go_roundw
                case rel =>
                  refine ⟨k + 1, v3, .slice a4 (k + 1) c4, x4, by omega, by go_num, ?_, ?_, ?_⟩
                  · rw [Hstep.out, wayCells_snoc]; exact hrow
                  · rw [Hstep.out]; exact hS.pick [0, 1, 2, 3] rfl (by decide)
                  · rw [Hstep.out]; exact hat
                case measure => simp [intOf]; omega
              · exact AllReady.nil
            · exact AllReady.nil
          · exact AllReady.nil
        · exact AllReady.nil
      · refine rcons rfl rfl (fun K hK => ?_) ?_
        · refine owp_call rfl (by kernel_rfl) rfl (rsum_ok b u l _ _ _ (hS.get 0 rfl) (hu.st hS) hat) ?_
          rintro e w2 ⟨rfl, v3, hc, hat2⟩
          replace hS := hS.call1 0 rfl hc
          try simp only [List.cons_append, List.nil_append, List.append_nil, List.set_cons_zero, List.set_cons_succ] at hS
          clear hc hat
          have hat := hat2
          clear hat2
          refine ⟨_, rfl, ?_⟩
          refine hK _ _ ?_; clear hK K; simp only [Act.put, List.setIfInBounds_toArray, List.set_cons_succ, List.set_cons_zero]
          refine wpAny_ready (rs := [1, 4]) (by kernel_rfl) (by simp) ?_
          refine rcons rfl rfl (fun K hK => ?_) ?_
          · refine owp_load1 hS 2 rfl rfl rfl (Sig.get_way _ _ Hl.out) ?_
            refine hK _ _ ?_; clear hK K; simp only [Act.put, List.setIfInBounds_toArray, List.set_cons_succ, List.set_cons_zero]
            refine wpAny_ready (rs := [4]) (by kernel_rfl) (by simp) ?_
            refine rcons rfl rfl (fun K hK => ?_) ?_
            · refine owp_bslice1 (vs := bs s2.sum.1) hS rfl rfl Hdl.out (by decide) ?_
              clear hS
              intro gl _ hS
              try simp only [List.cons_append, List.nil_append, List.append_nil, List.set_cons_zero, List.set_cons_succ] at hS
              refine hK _ _ ?_; clear hK K; simp only [Act.put, List.setIfInBounds_toArray, List.set_cons_succ, List.set_cons_zero]
              refine wpAny_ready (rs := [5]) (by kernel_rfl) (by simp) ?_
              refine rcons rfl rfl (fun K hK => ?_) ?_
              · refine owp_append hS 3 rfl rfl rfl hrow rfl ((RowV.lit 27 32 _ 1 _ (by rw [Hdl.out]) (by decide)).read (hS.get 4 rfl)) (bs_one _) h63 hby ?_
                clear hS hrow
                intro v4 x4 _ hrow hS _
                obtain ⟨a4, c4, rfl⟩ := hrow.isSl
                try simp only [List.cons_append, List.nil_append, List.append_nil, List.set_cons_zero, List.set_cons_succ] at hS
                refine hK _ _ ?_; clear hK K; simp only [Act.put, List.setIfInBounds_toArray, List.set_cons_succ, List.set_cons_zero]
                refine rtake (i := 6) (v := .pointer (some ⟨gs, 1025, none⟩)) rfl (by kernel_rfl) (by kernel_rfl) (by kernel_rfl) (fun _ _ _ h => h) (Or.inl ⟨by rfl, by (intro w; go_simp; try with_reducible rfl)⟩) ?_; simp only [Act.put, List.setIfInBounds_toArray, List.set_cons_succ, List.set_cons_zero]
                refine wpAny_ready (rs := [7]) (by kernel_rfl) (by simp) ?_
                refine rcons rfl rfl (fun K hK => ?_) ?_
                · refine owp_store1 hS 2 rfl rfl rfl rfl rfl (by rw [Sig.len _ _ Hl.out]; omega) (Sig.set_way _ _ _ [] _ _ Hl.out) ?_
                  clear hS
                  intro _ hS
                  try simp only [List.cons_append, List.nil_append, List.append_nil, List.set_cons_zero, List.set_cons_succ] at hS
                  refine hK _ _ ?_; clear hK K; simp only [Act.put, List.setIfInBounds_toArray, List.set_cons_succ, List.set_cons_zero]
                  refine wpAny_done (by kernel_rfl) ?_ _
                  go_wp2_with fail
                  go_roundw
                  case rel =>
                    refine ⟨k + 1, v3, .slice a4 (k + 1) c4, x4, by omega, by go_num, ?_, ?_, ?_⟩
                    · rw [Hstep.out, wayCells_snoc]; exact hrow
                    · rw [Hstep.out]; exact hS.pick [0, 1, 2, 3] rfl (by decide)
                    · rw [Hstep.out]; exact hat
                  case measure => simp [intOf]; omega
                · exact AllReady.nil
              · exact AllReady.nil
            · exact AllReady.nil
          · refine rcons rfl rfl (fun K hK => ?_) ?_
            · refine owp_bslice1 (vs := bs s2.sum.1) hS rfl rfl Hdl.out (by decide) ?_
              clear hS
              intro gl _ hS
              try simp only [List.cons_append, List.nil_append, List.append_nil, List.set_cons_zero, List.set_cons_succ] at hS
              refine hK _ _ ?_; clear hK K; simp only [Act.put, List.setIfInBounds_toArray, List.set_cons_succ, List.set_cons_zero]
              refine wpAny_ready (rs := [1]) (by kernel_rfl) (by simp) ?_
              refine rcons rfl rfl (fun K hK => ?_) ?_
              · refine owp_load1 hS 2 rfl rfl rfl (Sig.get_way _ _ Hl.out) ?_
                refine hK _ _ ?_; clear hK K; simp only [Act.put, List.setIfInBounds_toArray, List.set_cons_succ, List.set_cons_zero]
                refine wpAny_ready (rs := [5]) (by kernel_rfl) (by simp) ?_
                refine rcons rfl rfl (fun K hK => ?_) ?_
                · refine owp_append hS 3 rfl rfl rfl hrow rfl ((RowV.lit 27 32 _ 1 _ (by rw [Hdl.out]) (by decide)).read (hS.get 4 rfl)) (bs_one _) h63 hby ?_
                  clear hS hrow
                  intro v4 x4 _ hrow hS _
                  obtain ⟨a4, c4, rfl⟩ := hrow.isSl
                  try simp only [List.cons_append, List.nil_append, List.append_nil, List.set_cons_zero, List.set_cons_succ] at hS
                  refine hK _ _ ?_; clear hK K; simp only [Act.put, List.setIfInBounds_toArray, List.set_cons_succ, List.set_cons_zero]
                  refine rtake (i := 6) (v := .pointer (some ⟨gs, 1025, none⟩)) rfl (by kernel_rfl) (by kernel_rfl) (by kernel_rfl) (fun _ _ _ h => h) (Or.inl ⟨by rfl, by (intro w; go_simp; try with_reducible rfl)⟩) ?_; simp only [Act.put, List.setIfInBounds_toArray, List.set_cons_succ, List.set_cons_zero]
                  refine wpAny_ready (rs := [7]) (by kernel_rfl) (by simp) ?_
                  refine rcons rfl rfl (fun K hK => ?_) ?_
                  · refine owp_store1 hS 2 rfl rfl rfl rfl rfl (by rw [Sig.len _ _ Hl.out]; omega) (Sig.set_way _ _ _ [] _ _ Hl.out) ?_
                    clear hS
                    intro _ hS
                    try simp only [List.cons_append, List.nil_append, List.append_nil, List.set_cons_zero, List.set_cons_succ] at hS
                    refine hK _ _ ?_; clear hK K; simp only [Act.put, List.setIfInBounds_toArray, List.set_cons_succ, List.set_cons_zero]
                    refine wpAny_done (by kernel_rfl) ?_ _
                    go_wp2_with fail
                    go_roundw
                    case rel =>
                      refine ⟨k + 1, v3, .slice a4 (k + 1) c4, x4, by omega, by go_num, ?_, ?_, ?_⟩
                      · rw [Hstep.out, wayCells_snoc]; exact hrow
                      · rw [Hstep.out]; exact hS.pick [0, 1, 2, 3] rfl (by decide)
                      · rw [Hstep.out]; exact hat
                    case measure => simp [intOf]; omega
                  · exact AllReady.nil
                · exact AllReady.nil
              · exact AllReady.nil
            · exact AllReady.nil
        · exact AllReady.nil
    · have hkn : k = n := by omega
      subst hkn
      have Hlen := Lib.hid (times_len PS.sum k s1)
      generalize (times PS.sum k s1).1 = way at *
      generalize (times PS.sum k s1).2 = s2 at *
      obtain ⟨a0, c0, rfl⟩ := hrow.isSl
      by_cases hbad : s2.bad = 0
      · have hb1 : (s2.bad != 0) = false := by simpa using hbad
        have Hbad := Lib.hid hbad
        clear hbad
        go_wp2_with (first | ((with_reducible show wpList _ _ _ (Oper.mk _ (Op.load _ _) _ _ _ _ :: _) _ _); refine wpl rfl ?_; refine (owp_load1 hS 0 rfl rfl rfl rfl ?_)) | ((with_reducible show wpList _ _ _ (Oper.mk _ (Op.load _ _) _ _ _ _ :: _) _ _); refine wpl rfl ?_; refine (owp_loadW hS 2 rfl rfl rfl (Sig.len _ _ Hl.out) ?_)) | ((with_reducible show wpList _ _ _ (Oper.mk _ (Op.store _ _ _) _ _ _ _ :: _) _ _); refine wpl rfl ?_; refine (owp_storeW hS 1 rfl rfl rfl rfl (Sig.len _ _ Hl.out) (Sig.len Sig.zero _ Hz.out) (Sig.one _ _ rfl) ?_); clear hS; intro _ hS; try simp only [List.cons_append, List.nil_append, List.append_nil, List.set_cons_zero, List.set_cons_succ] at hS))
        (try simp only [Exit.inBlock, Exit.then]); refine bodyPost_ret (res_cell rfl rfl hS 1 rfl (Sig.len _ _ Hl.out)) rfl ?_
        refine ⟨.slice a0 k c0, v', x, ?_, ?_, ?_, ?_⟩
        · rw [Ht.out, if_neg (by simpa using Hbad.out)]; rfl
        · rw [Ht.out]; exact hS.pick [0, 3] rfl (by decide)
        · rw [Ht.out]; exact hat
        · rw [Ht.out, if_neg (by simpa using Hbad.out), Hlen.out]; exact hrow
      · have hb1 : (s2.bad != 0) = true := by simpa using hbad
        have Hbad := Lib.hid hbad
        clear hbad
        go_wp2_with (first | ((with_reducible show wpList _ _ _ (Oper.mk _ (Op.load _ _) _ _ _ _ :: _) _ _); refine wpl rfl ?_; refine (owp_load1 hS 0 rfl rfl rfl rfl ?_)) | ((with_reducible show wpList _ _ _ (Oper.mk _ (Op.build _ _) _ _ _ _ :: _) _ _); refine wpl rfl ?_; refine owp_build rfl [] rfl (build_sigR0 _) ?_) | ((with_reducible show wpList _ _ _ (Oper.mk _ (Op.store _ _ _) _ _ _ _ :: _) _ _); refine wpl rfl ?_; refine (owp_storeW hS 1 rfl rfl rfl rfl (Sig.len Sig.zero _ Hz.out) (Sig.len Sig.zero _ Hz.out) (Sig.one _ _ rfl) ?_); clear hS; intro _ hS; try simp only [List.cons_append, List.nil_append, List.append_nil, List.set_cons_zero, List.set_cons_succ] at hS))
        (try simp only [Exit.inBlock, Exit.then]); refine bodyPost_ret (res_cell rfl rfl hS 1 rfl (Sig.len Sig.zero _ Hz.out)) rfl ?_
        refine ⟨.slice none 0 0, v', none, ?_, ?_, ?_, ?_⟩
        · rw [Ht.out, if_pos (by simpa using Hbad.out)]
        · rw [Ht.out]; exact (hS.pick [0] rfl (by decide)).addNone
        · rw [Ht.out]; exact hat
        · rw [Ht.out, if_pos (by simpa using Hbad.out)]; exact RowV.nil _ _

end Go.Proofs.Ytjgphbdffhmmgaa
