/-
  The document's ring's signature and memo turned into the program's.
-/
import Derived.Test.YtldmkafobbemjaaB4
namespace Go.Proofs.Ytldmkafobbemjaa
set_option linter.unusedSimpArgs false
set_option linter.unusedVariables false
open Go Go.RowKit
set_option maxRecDepth 100000
set_option maxHeartbeats 2000000

theorem sigTo_ok (s : Sig) (hf : s.Fit) (wv : Value) (w : World) (hv : RowR w 32 wv s.way.length (wayCells s.way)) (hl : s.way.length ≤ 1000) :
    Calls Try.prog 51 #[.agg (s.cells wv).toArray] w (SigFromPost 50 w s) := by
  have hS := St.nil w
  obtain ⟨l, key, way⟩ := s
  simp only at hv hl
  obtain ⟨a0, c0, rfl⟩ := hv.isSl
  have Hll := Lib.hid (LSig.len l hf.shown hf.other)
  have Hv := Lib.hid hv
  have Hway := Lib.hid hf.way
  have Hlamp := Lib.hid (lampTo_ok l hf.shown hf.other)
  have Hone := Lib.hid (Sig.one ⟨l, key, []⟩ (.slice none 0 0) rfl)
  have Hlen := Lib.hid (Sig.len ⟨l, key, way⟩ (.slice a0 way.length c0) Hll.out)
  have Hg0 := Lib.hid (show ((Sig.cells ⟨l, key, way⟩ (.slice a0 way.length c0)).drop 0).take 1024 = l.cells by
    show ((l.cells ++ [Value.int .u32 key, Value.slice a0 way.length c0]).drop 0).take 1024 = _
    rw [List.drop_zero, List.take_left' Hll.out])
  have Hg1 := Lib.hid (show (Sig.cells ⟨l, key, way⟩ (.slice a0 way.length c0))[1024]? = some (.int .u32 key) by
    show (l.cells ++ [Value.int .u32 key, Value.slice a0 way.length c0])[1024]? = _
    rw [List.getElem?_append_right (Nat.le_of_eq Hll.out), Hll.out]; rfl)
  have Hg2 := Lib.hid (Sig.get_way ⟨l, key, way⟩ (.slice a0 way.length c0) Hll.out)
  have Hb := Lib.hid (build_sigP l key Hll.out)
  clear hv hf
  generalize Sig.cells ⟨l, key, way⟩ (.slice a0 way.length c0) = cs at *
  go_enter Try.func51, Try.ntmps51
  go_upto_region 1 with (first
    | ((with_reducible show wpList _ _ _ (Oper.mk _ (Op.box _ _) _ _ _ _ :: _) _ _); refine wpl rfl ?_; refine owp_box hS rfl (vs := cs) rfl ?_; clear hS; intro gs _ hS; try simp only [List.cons_append, List.nil_append, List.append_nil, List.set_cons_zero, List.set_cons_succ] at hS)
    | ((with_reducible show wpList _ _ _ (Oper.mk (some 2) (Op.alloc _) _ _ _ _ :: _) _ _); refine wpl rfl ?_; refine (owp_allocAt hS 2 rfl rfl ?_); clear hS; intro gr _ hS; simp only [List.cons_append, List.nil_append] at hS))
  simp only [Act.put, List.setIfInBounds_toArray, List.set_cons_succ, List.set_cons_zero]
  go_cut [3] (fun p wr => ∃ go, p = .pointer (some ⟨go, 0, none⟩) ∧ St w [] wr [some (gs, cs, 66), some (gr, Sig.zero.cells (.slice none 0 0), 39), some (go, Sig.cells ⟨l, key, []⟩ (.slice none 0 0), 39)])
  case first =>
    replace hS := hS.drew
    refine wp_region_held_drew (S := (fun w' => CellsAt w' ⟨gs, 0, none⟩ l.cells ∧ w'.cell? ⟨gs, 1024, none⟩ = some (.int .u32 key))) (by kernel_rfl) ⟨(hS.get 0 rfl).range 0 1024 Hg0.out, (hS.get 0 rfl).cell 1024 Hg1.out⟩ (fun hHeld => ?_)
    refine htake (i := 0) (v := (.pointer (some ⟨gs, 0, none⟩))) rfl (by kernel_rfl) (by kernel_rfl) (by kernel_rfl) (fun _ _ _ h => h) (Or.inl ⟨by rfl, by (intro w hSw; (try dsimp only at hSw); (try obtain ⟨h1, h2⟩ := hSw); go_simp; try with_reducible rfl)⟩) (by assumption) ?_; simp only [Act.put, List.setIfInBounds_toArray, List.set_cons_succ, List.set_cons_zero]
    refine htake (i := 1) (v := (.agg l.cells.toArray)) rfl (by kernel_rfl) (by kernel_rfl) (by kernel_rfl) (fun _ _ _ h => h) (Or.inl ⟨by rfl, yl_loadR rfl rfl Hll.out (fun _ h => h.1)⟩) (by assumption) ?_; simp only [Act.put, List.setIfInBounds_toArray, List.set_cons_succ, List.set_cons_zero]
    refine htake (i := 3) (v := (.pointer (some ⟨gs, 1024, none⟩))) rfl (by kernel_rfl) (by kernel_rfl) (by kernel_rfl) (fun _ _ _ h => h) (Or.inl ⟨by rfl, by (intro w hSw; (try dsimp only at hSw); (try obtain ⟨h1, h2⟩ := hSw); go_simp; try with_reducible rfl)⟩) (by assumption) ?_; simp only [Act.put, List.setIfInBounds_toArray, List.set_cons_succ, List.set_cons_zero]
    refine htake (i := 4) (v := (.int .u32 key)) rfl (by kernel_rfl) (by kernel_rfl) (by kernel_rfl) (fun _ _ _ h => h) (Or.inl ⟨by rfl, by (intro w hSw; (try dsimp only at hSw); (try obtain ⟨h1, h2⟩ := hSw); go_simp; try with_reducible rfl)⟩) (by assumption) ?_; simp only [Act.put, List.setIfInBounds_toArray, List.set_cons_succ, List.set_cons_zero]
    refine wpAnyH_ready (rs := [2, 6]) (by kernel_rfl) (by simp) ?_
    refine hcons rfl rfl (fun K hK => ?_) ?_
    · clear hHeld
      refine owp_call rfl (by kernel_rfl) (args := #[.agg l.cells.toArray]) rfl (Hlamp.out _) ?_
      rintro e w5 ⟨rfl, hc⟩
      replace hS := hS.call0 hc
      try simp only [List.cons_append, List.nil_append, List.append_nil, List.set_cons_zero, List.set_cons_succ] at hS
      clear hc
      refine ⟨_, rfl, ?_⟩
      refine hK.out _ _ ⟨(hS.get 0 rfl).range 0 1024 Hg0.out, (hS.get 0 rfl).cell 1024 Hg1.out⟩ (fun hHeld => ?_)
      clear hK K
      simp only [Act.put, List.setIfInBounds_toArray, List.set_cons_succ, List.set_cons_zero]
      refine htake (i := 5) (v := (.agg (Sig.cells ⟨l, key, []⟩ (.slice none 0 0)).toArray)) rfl (by kernel_rfl) (by kernel_rfl) (by kernel_rfl) (fun _ _ _ h => h) (Or.inl ⟨by rfl, yl_build rfl [(0, .agg l.cells.toArray), (1, .int .u32 key)] rfl Hb.out⟩) (by assumption) ?_; simp only [Act.put, List.setIfInBounds_toArray, List.set_cons_succ, List.set_cons_zero]
      refine wpAnyH_ready (rs := [6]) (by kernel_rfl) (by simp) ?_
      refine hcons rfl rfl (fun K hK => ?_) ?_
      · clear hHeld
        refine owp_alloc hS rfl ?_
        clear hS; intro go _ hS; try simp only [List.cons_append, List.nil_append, List.append_nil, List.set_cons_zero, List.set_cons_succ] at hS
        refine hK.out _ _ ⟨(hS.get 0 rfl).range 0 1024 Hg0.out, (hS.get 0 rfl).cell 1024 Hg1.out⟩ (fun hHeld => ?_)
        clear hK K
        simp only [Act.put, List.setIfInBounds_toArray, List.set_cons_succ, List.set_cons_zero]
        refine wpAnyH_ready (rs := [7]) (by kernel_rfl) (by simp) ?_
        refine hcons rfl rfl (fun K hK => ?_) ?_
        · clear hHeld
          refine owp_storeW hS 2 rfl rfl rfl rfl (Sig.len ⟨l, key, []⟩ _ Hll.out) (Sig.len Sig.zero _ lzero_len) Hone.out ?_
          clear hS; intro _ hS; try simp only [List.cons_append, List.nil_append, List.append_nil, List.set_cons_zero, List.set_cons_succ] at hS
          refine hK.out _ _ ⟨(hS.get 0 rfl).range 0 1024 Hg0.out, (hS.get 0 rfl).cell 1024 Hg1.out⟩ (fun hHeld => ?_)
          clear hK K
          simp only [Act.put, List.setIfInBounds_toArray, List.set_cons_succ, List.set_cons_zero]
          refine wpAnyH_done (by kernel_rfl) ?_ _
          clear hHeld
          go_wp2_with fail
          go_meet
          exact ⟨go, rfl, hS.pick [0, 1, 2] rfl (by decide)⟩
        exact AllReadyH.nil
      exact AllReadyH.nil
    refine hcons rfl rfl (fun K hK => ?_) ?_
    · clear hHeld
      refine owp_alloc hS rfl ?_
      clear hS; intro go _ hS; try simp only [List.cons_append, List.nil_append, List.append_nil, List.set_cons_zero, List.set_cons_succ] at hS
      refine hK.out _ _ ⟨(hS.get 0 rfl).range 0 1024 Hg0.out, (hS.get 0 rfl).cell 1024 Hg1.out⟩ (fun hHeld => ?_)
      clear hK K
      simp only [Act.put, List.setIfInBounds_toArray, List.set_cons_succ, List.set_cons_zero]
      refine wpAnyH_ready (rs := [2]) (by kernel_rfl) (by simp) ?_
      refine hcons rfl rfl (fun K hK => ?_) ?_
      · clear hHeld
        refine owp_call rfl (by kernel_rfl) (args := #[.agg l.cells.toArray]) rfl (Hlamp.out _) ?_
        rintro e w5 ⟨rfl, hc⟩
        replace hS := hS.call0 hc
        try simp only [List.cons_append, List.nil_append, List.append_nil, List.set_cons_zero, List.set_cons_succ] at hS
        clear hc
        refine ⟨_, rfl, ?_⟩
        refine hK.out _ _ ⟨(hS.get 0 rfl).range 0 1024 Hg0.out, (hS.get 0 rfl).cell 1024 Hg1.out⟩ (fun hHeld => ?_)
        clear hK K
        simp only [Act.put, List.setIfInBounds_toArray, List.set_cons_succ, List.set_cons_zero]
        refine htake (i := 5) (v := (.agg (Sig.cells ⟨l, key, []⟩ (.slice none 0 0)).toArray)) rfl (by kernel_rfl) (by kernel_rfl) (by kernel_rfl) (fun _ _ _ h => h) (Or.inl ⟨by rfl, yl_build rfl [(0, .agg l.cells.toArray), (1, .int .u32 key)] rfl Hb.out⟩) (by assumption) ?_; simp only [Act.put, List.setIfInBounds_toArray, List.set_cons_succ, List.set_cons_zero]
        refine wpAnyH_ready (rs := [7]) (by kernel_rfl) (by simp) ?_
        refine hcons rfl rfl (fun K hK => ?_) ?_
        · clear hHeld
          refine owp_storeW hS 2 rfl rfl rfl rfl (Sig.len ⟨l, key, []⟩ _ Hll.out) (Sig.len Sig.zero _ lzero_len) Hone.out ?_
          clear hS; intro _ hS; try simp only [List.cons_append, List.nil_append, List.append_nil, List.set_cons_zero, List.set_cons_succ] at hS
          refine hK.out _ _ ⟨(hS.get 0 rfl).range 0 1024 Hg0.out, (hS.get 0 rfl).cell 1024 Hg1.out⟩ (fun hHeld => ?_)
          clear hK K
          simp only [Act.put, List.setIfInBounds_toArray, List.set_cons_succ, List.set_cons_zero]
          refine wpAnyH_done (by kernel_rfl) ?_ _
          clear hHeld
          go_wp2_with fail
          go_meet
          exact ⟨go, rfl, hS.pick [0, 1, 2] rfl (by decide)⟩
        exact AllReadyH.nil
      exact AllReadyH.nil
    exact AllReadyH.nil
  case rest =>
    clear hS
    obtain ⟨go, rfl, hS⟩ := hcut
    replace hS := hS.addNone
    try simp only [List.cons_append, List.nil_append, List.append_nil, List.set_cons_zero, List.set_cons_succ] at hS
    have hway : ∀ d, d ∈ way → d.length = 32 := Hway.out
    have Hw := Lib.hid hway
    clear hway Hway
    go_wp2_with (first | ((with_reducible show wpList _ _ _ (Oper.mk _ (Op.load _ _) _ _ _ _ :: _) _ _); refine wpl rfl ?_; refine owp_load1 hS 0 rfl rfl rfl Hg2.out ?_))
    go_loopw [5, 15] (fun _ i wr => ∃ (k : Nat) (wv' : Value) (x : Ent), k ≤ way.length ∧ i = .int .i64 k ∧ RowV 50 32 wv' k (wayCells (way.take k)) x ∧
        St w [] wr [some (gs, cs, 66), some (gr, Sig.zero.cells (.slice none 0 0), 39), some (go, Sig.cells ⟨l, key, []⟩ wv', 39), x]) (fun _ i _ => way.length - (intOf i).toNat)
    case atStart => exact ⟨0, .slice none 0 0, none, Nat.zero_le _, rfl, RowV.nil _ _, hS⟩
    case round =>
      clear hS
      obtain ⟨k, wv', x, hk, rfl, hrow, hS⟩ := hrel
      obtain ⟨a5, c5, rfl⟩ := hrow.isSl
      by_cases hlt : k < way.length
      · obtain ⟨g, off, rfl, hcs⟩ := Hv.out.cellsAll k hlt
        rw [wayCells_drop way Hw.out k hlt] at hcs
        have Hcs := Lib.hid hcs
        have Hd := Lib.hid (show (bs way[k]).length = 32 by rw [bs_length, Hw.out _ (List.getElem_mem hlt)])
        have Hstep := Lib.hid (show wayCells (way.take (k + 1)) = wayCells (way.take k) ++ bs way[k] by rw [List.take_succ_eq_append_getElem hlt, wayCells_snoc])
        have h63 : k + 1 ≤ maxLen := by unfold maxLen; omega
        have hby : (k + 1) * 32 ≤ 140737488355328 := by omega
        clear hcs
        generalize way[k] = d at *
        generalize wayCells (way.take k) = rows at *
        go_wp2_with (first
          | ((with_reducible show wpList _ _ _ (Oper.mk _ (Op.load _ _) _ _ _ _ :: _) _ _); refine wpl rfl ?_; first
              | refine owp_loadR rfl rfl (Hcs.out _ _ hS) Hd.out ?_
              | refine owp_load1 hS 2 rfl rfl rfl (Sig.get_way _ _ Hll.out) ?_
              | refine owp_loadW hS 4 rfl rfl rfl Hd.out ?_)
          | ((with_reducible show wpList _ _ _ (Oper.mk (some 5) (Op.alloc _) _ _ _ _ :: _) _ _); refine wpl rfl ?_; refine (owp_allocAt hS 5 rfl rfl ?_); clear hS; intro gd _ hS; simp only [List.cons_append, List.nil_append] at hS)
          | ((with_reducible show wpList _ _ _ (Oper.mk _ (Op.store _ _ _) _ _ _ _ :: _) _ _); refine wpl rfl ?_; refine (owp_storeW hS 4 rfl rfl rfl rfl (Hd.out) (by rfl) (bs_one _) ?_); clear hS; intro _ hS; try simp only [List.cons_append, List.nil_append, List.append_nil, List.set_cons_zero, List.set_cons_succ] at hS)
          | ((with_reducible show wpList _ _ _ (Oper.mk _ (Op.buildSlice _ _ _) _ _ _ _ :: _) _ _); refine wpl rfl ?_; refine owp_bslice1 (vs := bs d) hS rfl rfl Hd.out (by decide) ?_; clear hS; intro gb _ hS; try simp only [List.cons_append, List.nil_append, List.append_nil, List.set_cons_zero, List.set_cons_succ] at hS)
          | ((with_reducible show wpList _ _ _ (Oper.mk _ (Op.call (Call.mk (Callee.builtin Builtin.append) _ _)) _ _ _ _ :: _) _ _); refine wpl rfl ?_; refine owp_append hS 3 rfl rfl rfl hrow rfl ((RowV.lit 50 32 gb 1 (bs d) (by rw [Hd.out]) (by decide)).read (hS.get 5 rfl)) (bs_one _) h63 hby ?_; clear hS hrow; intro v' x'' w2 hrow hS _; obtain ⟨a6, c6, rfl⟩ := hrow.isSl; try simp only [List.cons_append, List.nil_append, List.append_nil, List.set_cons_zero, List.set_cons_succ] at hS)
          | ((with_reducible show wpList _ _ _ (Oper.mk _ (Op.store _ _ _) _ _ _ _ :: _) _ _); refine wpl rfl ?_; refine owp_store1 hS 2 rfl rfl rfl rfl rfl (by rw [Sig.len _ _ Hll.out]; omega) (Sig.set_way _ _ _ [] _ _ Hll.out) ?_; clear hS; intro _ hS; try simp only [List.cons_append, List.nil_append, List.append_nil, List.set_cons_zero, List.set_cons_succ] at hS))
        refine ⟨⟨k + 1, _, x'', by omega, by simp, ?_, hS.pick [0, 1, 2, 3] rfl (by decide)⟩, by simp [intOf]; omega⟩
        rw [Hstep.out]
        exact hrow
      · have hkn : k = way.length := by omega
        subst hkn
        rw [List.take_length] at hrow
        have Hfin := Lib.hid (Sig.len ⟨l, key, []⟩ (.slice a5 way.length c5) Hll.out)
        have Hfin1 := Lib.hid (Sig.one ⟨l, key, []⟩ (.slice a5 way.length c5) rfl)
        go_wp2_with (first | ((with_reducible show wpList _ _ _ (Oper.mk _ (Op.load _ _) _ _ _ _ :: _) _ _); refine wpl rfl ?_; refine (owp_loadW hS 2 rfl rfl rfl (Hfin.out) ?_)) | ((with_reducible show wpList _ _ _ (Oper.mk _ (Op.store _ _ _) _ _ _ _ :: _) _ _); refine wpl rfl ?_; refine (owp_storeW hS 1 rfl rfl rfl rfl (Hfin.out) (Sig.len Sig.zero _ lzero_len) (Hfin1.out) ?_); clear hS; intro _ hS; try simp only [List.cons_append, List.nil_append, List.append_nil, List.set_cons_zero, List.set_cons_succ] at hS))
        (try simp only [Exit.inBlock, Exit.then]); refine bodyPost_ret (res_cell rfl rfl hS 1 rfl (Hfin.out)) rfl ?_
        exact ⟨_, x, rfl, hS.pick [3] rfl (by decide), hrow⟩

end Go.Proofs.Ytldmkafobbemjaa
