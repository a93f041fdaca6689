/-
  The document's state and deed turned into the program's; a deed's twin.
-/
import Derived.Test.YtldmkafobbemjaaC6
import Derived.Test.YtldmkafobbemjaaB5
namespace Go.Proofs.Ytldmkafobbemjaa
set_option linter.unusedSimpArgs false
set_option linter.unusedVariables false
open Go Go.RowKit
set_option maxRecDepth 100000
set_option maxHeartbeats 2000000

theorem stateTo_ok (s : State) (hh : ∀ c, c ∈ s.conds → c.hash.length = 32) (cv : Value) (w : World) (hv : RowR w 36 cv s.conds.length (condCells s.conds)) (hl : s.conds.length ≤ 1000) :
    Calls Try.prog 50 #[.agg (s.cells cv).toArray] w (StateFromPost 86 w s) := by
  have hS := St.nil w
  obtain ⟨ch, r, m0, m1, t0, t1, conds⟩ := s
  simp only at hv hl hh
  obtain ⟨a0, c0, rfl⟩ := hv.isSl
  have Hv := Lib.hid hv
  have Hh := Lib.hid hh
  have Hb := Lib.hid (build_stateP ch r m0 m1 t0 t1)
  have Hcf := Lib.hid condTo_ok
  clear hv hh
  go_enter Try.func50, Try.ntmps50
  go_wp2_with (first
    | ((with_reducible show wpList _ _ _ (Oper.mk _ (Op.box _ _) _ _ _ _ :: _) _ _); refine wpl rfl ?_; refine owp_box hS rfl (vs := State.cells ⟨ch, r, m0, m1, t0, t1, conds⟩ (.slice a0 conds.length c0)) rfl ?_; clear hS; intro gs _ hS; try simp only [List.cons_append, List.nil_append, List.append_nil, List.set_cons_zero, List.set_cons_succ] at hS)
    | ((with_reducible show wpList _ _ _ (Oper.mk (some 2) (Op.alloc _) _ _ _ _ :: _) _ _); refine wpl rfl ?_; refine (owp_allocAt hS 2 rfl rfl ?_); clear hS; intro gr _ hS; simp only [List.cons_append, List.nil_append] at hS)
    | ((with_reducible show wpList _ _ _ (Oper.mk _ (Op.load _ _) _ _ _ _ :: _) _ _); refine wpl rfl ?_; first
        | refine owp_load1 hS 0 rfl rfl rfl (show (State.cells ⟨ch, r, m0, m1, t0, t1, conds⟩ (.slice a0 conds.length c0))[0]? = some (.int .u32 ch) from rfl) ?_
        | refine owp_load1 hS 0 rfl rfl rfl (show (State.cells ⟨ch, r, m0, m1, t0, t1, conds⟩ (.slice a0 conds.length c0))[1]? = some (.int .u64 r) from rfl) ?_
        | refine owp_load1 hS 0 rfl rfl rfl (show (State.cells ⟨ch, r, m0, m1, t0, t1, conds⟩ (.slice a0 conds.length c0))[6]? = some (.slice a0 conds.length c0) from rfl) ?_
        | refine owp_load hS 0 rfl rfl rfl (show ((State.cells ⟨ch, r, m0, m1, t0, t1, conds⟩ (.slice a0 conds.length c0)).drop 2).take 2 = [.int .u64 m0, .int .u64 m1] from rfl) rfl ?_
        | refine owp_load hS 0 rfl rfl rfl (show ((State.cells ⟨ch, r, m0, m1, t0, t1, conds⟩ (.slice a0 conds.length c0)).drop 4).take 2 = [.int .u64 t0, .int .u64 t1] from rfl) rfl ?_)
    | ((with_reducible show wpList _ _ _ (Oper.mk _ (Op.build _ _) _ _ _ _ :: _) _ _); refine wpl rfl ?_; refine owp_build rfl [(0, .int .u32 ch), (1, .int .u64 r), (2, .agg #[.int .u64 m0, .int .u64 m1]), (3, .agg #[.int .u64 t0, .int .u64 t1])] rfl (Hb.out _) ?_)
    | ((with_reducible show wpList _ _ _ (Oper.mk (some 3) (Op.alloc _) _ _ _ _ :: _) _ _); refine wpl rfl ?_; refine (owp_allocAt hS 3 rfl rfl ?_); clear hS; intro go _ hS; simp only [List.cons_append, List.nil_append] at hS)
    | ((with_reducible show wpList _ _ _ (Oper.mk _ (Op.store _ _ _) _ _ _ _ :: _) _ _); refine wpl rfl ?_; refine (owp_storeW hS 2 rfl rfl rfl rfl (by rfl) (by rfl) (State.one _ _ rfl) ?_); clear hS; intro _ hS; try simp only [List.cons_append, List.nil_append, List.append_nil, List.set_cons_zero, List.set_cons_succ] at hS))
  replace hS := hS.addNone
  try simp only [List.cons_append, List.nil_append, List.append_nil, List.set_cons_zero, List.set_cons_succ] at hS
  go_loopw [5, 18] (fun _ i wr => ∃ (k : Nat) (cv' : Value) (x : Ent), k ≤ conds.length ∧ i = .int .i64 k ∧ RowV 86 36 cv' k (condCells (conds.take k)) x ∧
      St w [] wr [some (gs, State.cells ⟨ch, r, m0, m1, t0, t1, conds⟩ (.slice a0 conds.length c0), 59), some (gr, State.zero.cells (.slice none 0 0), 31), some (go, State.cells ⟨ch, r, m0, m1, t0, t1, []⟩ cv', 31), x]) (fun _ i _ => conds.length - (intOf i).toNat)
  case atStart => exact ⟨0, .slice none 0 0, none, Nat.zero_le _, rfl, RowV.nil _ _, hS⟩
  case round =>
    clear hS
    obtain ⟨k, cv', x, hk, rfl, hrow, hS⟩ := hrel
    obtain ⟨a5, c5, rfl⟩ := hrow.isSl
    by_cases hlt : k < conds.length
    · obtain ⟨g, off, rfl, hcs⟩ := Hv.out.cellsAll k hlt
      rw [condCells_drop conds Hh.out k hlt] at hcs
      have Hcs := Lib.hid hcs
      have Hc32 := Lib.hid (Hh.out _ (List.getElem_mem hlt))
      have Hstep := Lib.hid (condCells_take_succ conds k hlt)
      have h63 : k + 1 ≤ maxLen := by unfold maxLen; omega
      have hby : (k + 1) * 64 ≤ 140737488355328 := by omega
      clear hcs
      generalize conds[k] = c at *
      generalize condCells (conds.take k) = rows at *
      have Hcl := Lib.hid (Cond.len c Hc32.out)
      have Hcc := Lib.hid (Hcf.out c Hc32.out)
      go_wp2_with (first
        | ((with_reducible show wpList _ _ _ (Oper.mk _ (Op.load _ _) _ _ _ _ :: _) _ _); refine wpl rfl ?_; refine owp_loadR rfl rfl (Hcs.out _ _ hS) Hcl.out ?_)
        | ((with_reducible show wpList _ _ _ (Oper.mk (some 5) (Op.alloc _) _ _ _ _ :: _) _ _); refine wpl rfl ?_; refine (owp_allocAt hS 5 rfl rfl ?_); clear hS; intro gd _ hS; simp only [List.cons_append, List.nil_append] at hS)
        | ((with_reducible show wpList _ _ _ (Oper.mk _ (Op.store _ _ _) _ _ _ _ :: _) _ _); refine wpl rfl ?_; refine (owp_storeW hS 4 rfl rfl rfl rfl (Hcl.out) (Cond.len Cond.zero (zb_length 32)) (Cond.one _) ?_); clear hS; intro _ hS; try simp only [List.cons_append, List.nil_append, List.append_nil, List.set_cons_zero, List.set_cons_succ] at hS))
      try simp only [Act.put, List.setIfInBounds_toArray, List.set_cons_succ, List.set_cons_zero]
      replace hS := hS.drew
      refine wp_region_held_drew (S := (fun w' => CellsAt w' ⟨gd, 0, none⟩ c.cells)) (by kernel_rfl) ((hS.get 4 rfl).range 0 36 (by rw [List.drop_zero, List.take_of_length_le (Nat.le_of_eq Hcl.out)])) (fun hHeld => ?_)
      refine htake (i := 0) (v := (.pointer (some ⟨go, 6, none⟩))) rfl (by kernel_rfl) (by kernel_rfl) (by kernel_rfl) (fun _ _ _ h => h) (Or.inl ⟨by rfl, by (intro w hSw; (try dsimp only at hSw); (try obtain hSw := hSw); go_simp; try with_reducible rfl)⟩) (by assumption) ?_; simp only [Act.put, List.setIfInBounds_toArray, List.set_cons_succ, List.set_cons_zero]
      refine htake (i := 2) (v := (.agg c.cells.toArray)) rfl (by kernel_rfl) (by kernel_rfl) (by kernel_rfl) (fun _ _ _ h => h) (Or.inl ⟨by rfl, yl_loadR rfl rfl Hcl.out (fun _ h => h)⟩) (by assumption) ?_; simp only [Act.put, List.setIfInBounds_toArray, List.set_cons_succ, List.set_cons_zero]
      refine wpAnyH_ready (rs := [1, 3]) (by kernel_rfl) (by simp) ?_
      refine hcons rfl rfl (fun K hK => ?_) ?_
      · clear hHeld
        refine owp_load1 hS 2 rfl rfl rfl (show (State.cells ⟨ch, r, m0, m1, t0, t1, []⟩ (.slice a5 k c5))[6]? = some (.slice a5 k c5) from rfl) ?_
        refine hK.out _ _ ((hS.get 4 rfl).range 0 36 (by rw [List.drop_zero, List.take_of_length_le (Nat.le_of_eq Hcl.out)])) (fun hHeld => ?_)
        clear hK K
        simp only [Act.put, List.setIfInBounds_toArray, List.set_cons_succ, List.set_cons_zero]
        refine wpAnyH_ready (rs := [3]) (by kernel_rfl) (by simp) ?_
        refine hcons rfl rfl (fun K hK => ?_) ?_
        · clear hHeld
          refine owp_call rfl (by kernel_rfl) (args := #[.agg c.cells.toArray]) rfl (Hcc.out _) ?_
          rintro e w5 ⟨rfl, hc⟩
          replace hS := hS.call0 hc
          try simp only [List.cons_append, List.nil_append, List.append_nil, List.set_cons_zero, List.set_cons_succ] at hS
          clear hc
          refine ⟨_, rfl, ?_⟩
          refine hK.out _ _ ((hS.get 4 rfl).range 0 36 (by rw [List.drop_zero, List.take_of_length_le (Nat.le_of_eq Hcl.out)])) (fun hHeld => ?_)
          clear hK K
          simp only [Act.put, List.setIfInBounds_toArray, List.set_cons_succ, List.set_cons_zero]
          refine wpAnyH_ready (rs := [4]) (by kernel_rfl) (by simp) ?_
          refine hcons rfl rfl (fun K hK => ?_) ?_
          · clear hHeld
            refine owp_bslice1 (vs := c.cells) hS rfl rfl Hcl.out (by decide) ?_
            clear hS; intro ge _ hS; try simp only [List.cons_append, List.nil_append, List.append_nil, List.set_cons_zero, List.set_cons_succ] at hS
            refine hK.out _ _ ((hS.get 4 rfl).range 0 36 (by rw [List.drop_zero, List.take_of_length_le (Nat.le_of_eq Hcl.out)])) (fun hHeld => ?_)
            clear hK K
            simp only [Act.put, List.setIfInBounds_toArray, List.set_cons_succ, List.set_cons_zero]
            refine wpAnyH_ready (rs := [5]) (by kernel_rfl) (by simp) ?_
            refine hcons rfl rfl (fun K hK => ?_) ?_
            · clear hHeld
              refine owp_append hS 3 rfl rfl rfl hrow rfl ((RowV.lit 86 36 ge 1 c.cells (by rw [Hcl.out]) (by decide)).read (hS.get 5 rfl)) (Cond.one _) h63 hby ?_
              clear hS hrow
              intro v7 x7 _ hrow hS _
              obtain ⟨a7, c7, rfl⟩ := hrow.isSl
              try simp only [List.cons_append, List.nil_append, List.append_nil, List.set_cons_zero, List.set_cons_succ] at hS
              refine hK.out _ _ ((hS.get 4 rfl).range 0 36 (by rw [List.drop_zero, List.take_of_length_le (Nat.le_of_eq Hcl.out)])) (fun hHeld => ?_)
              clear hK K
              simp only [Act.put, List.setIfInBounds_toArray, List.set_cons_succ, List.set_cons_zero]
              refine htake (i := 6) (v := (.pointer (some ⟨go, 6, none⟩))) rfl (by kernel_rfl) (by kernel_rfl) (by kernel_rfl) (fun _ _ _ h => h) (Or.inl ⟨by rfl, by (intro w hSw; (try dsimp only at hSw); (try obtain hSw := hSw); go_simp; try with_reducible rfl)⟩) (by assumption) ?_; simp only [Act.put, List.setIfInBounds_toArray, List.set_cons_succ, List.set_cons_zero]
              refine wpAnyH_ready (rs := [7]) (by kernel_rfl) (by simp) ?_
              refine hcons rfl rfl (fun K hK => ?_) ?_
              · clear hHeld
                refine owp_store1 hS 2 rfl rfl rfl rfl rfl (show 6 < 7 by omega) (State.set6 _ _ _ _ _ _ _ _ _ []) ?_
                clear hS; intro _ hS; try simp only [List.cons_append, List.nil_append, List.append_nil, List.set_cons_zero, List.set_cons_succ] at hS
                refine hK.out _ _ ((hS.get 4 rfl).range 0 36 (by rw [List.drop_zero, List.take_of_length_le (Nat.le_of_eq Hcl.out)])) (fun hHeld => ?_)
                clear hK K
                simp only [Act.put, List.setIfInBounds_toArray, List.set_cons_succ, List.set_cons_zero]
                refine wpAnyH_done (by kernel_rfl) ?_ _
                clear hHeld
                go_wp2_with fail
                go_roundw
                case rel =>
                  refine ⟨k + 1, _, x7, by omega, by go_num, ?_, hS.pick [0, 1, 2, 3] rfl (by decide)⟩
                  rw [Hstep.out]
                  exact hrow
                case measure => simp [intOf]; omega
              exact AllReadyH.nil
            exact AllReadyH.nil
          exact AllReadyH.nil
        exact AllReadyH.nil
      refine hcons rfl rfl (fun K hK => ?_) ?_
      · clear hHeld
        refine owp_call rfl (by kernel_rfl) (args := #[.agg c.cells.toArray]) rfl (Hcc.out _) ?_
        rintro e w5 ⟨rfl, hc⟩
        replace hS := hS.call0 hc
        try simp only [List.cons_append, List.nil_append, List.append_nil, List.set_cons_zero, List.set_cons_succ] at hS
        clear hc
        refine ⟨_, rfl, ?_⟩
        refine hK.out _ _ ((hS.get 4 rfl).range 0 36 (by rw [List.drop_zero, List.take_of_length_le (Nat.le_of_eq Hcl.out)])) (fun hHeld => ?_)
        clear hK K
        simp only [Act.put, List.setIfInBounds_toArray, List.set_cons_succ, List.set_cons_zero]
        refine wpAnyH_ready (rs := [1, 4]) (by kernel_rfl) (by simp) ?_
        refine hcons rfl rfl (fun K hK => ?_) ?_
        · clear hHeld
          refine owp_load1 hS 2 rfl rfl rfl (show (State.cells ⟨ch, r, m0, m1, t0, t1, []⟩ (.slice a5 k c5))[6]? = some (.slice a5 k c5) from rfl) ?_
          refine hK.out _ _ ((hS.get 4 rfl).range 0 36 (by rw [List.drop_zero, List.take_of_length_le (Nat.le_of_eq Hcl.out)])) (fun hHeld => ?_)
          clear hK K
          simp only [Act.put, List.setIfInBounds_toArray, List.set_cons_succ, List.set_cons_zero]
          refine wpAnyH_ready (rs := [4]) (by kernel_rfl) (by simp) ?_
          refine hcons rfl rfl (fun K hK => ?_) ?_
          · clear hHeld
            refine owp_bslice1 (vs := c.cells) hS rfl rfl Hcl.out (by decide) ?_
            clear hS; intro ge _ hS; try simp only [List.cons_append, List.nil_append, List.append_nil, List.set_cons_zero, List.set_cons_succ] at hS
            refine hK.out _ _ ((hS.get 4 rfl).range 0 36 (by rw [List.drop_zero, List.take_of_length_le (Nat.le_of_eq Hcl.out)])) (fun hHeld => ?_)
            clear hK K
            simp only [Act.put, List.setIfInBounds_toArray, List.set_cons_succ, List.set_cons_zero]
            refine wpAnyH_ready (rs := [5]) (by kernel_rfl) (by simp) ?_
            refine hcons rfl rfl (fun K hK => ?_) ?_
            · clear hHeld
              refine owp_append hS 3 rfl rfl rfl hrow rfl ((RowV.lit 86 36 ge 1 c.cells (by rw [Hcl.out]) (by decide)).read (hS.get 5 rfl)) (Cond.one _) h63 hby ?_
              clear hS hrow
              intro v7 x7 _ hrow hS _
              obtain ⟨a7, c7, rfl⟩ := hrow.isSl
              try simp only [List.cons_append, List.nil_append, List.append_nil, List.set_cons_zero, List.set_cons_succ] at hS
              refine hK.out _ _ ((hS.get 4 rfl).range 0 36 (by rw [List.drop_zero, List.take_of_length_le (Nat.le_of_eq Hcl.out)])) (fun hHeld => ?_)
              clear hK K
              simp only [Act.put, List.setIfInBounds_toArray, List.set_cons_succ, List.set_cons_zero]
              refine htake (i := 6) (v := (.pointer (some ⟨go, 6, none⟩))) rfl (by kernel_rfl) (by kernel_rfl) (by kernel_rfl) (fun _ _ _ h => h) (Or.inl ⟨by rfl, by (intro w hSw; (try dsimp only at hSw); (try obtain hSw := hSw); go_simp; try with_reducible rfl)⟩) (by assumption) ?_; simp only [Act.put, List.setIfInBounds_toArray, List.set_cons_succ, List.set_cons_zero]
              refine wpAnyH_ready (rs := [7]) (by kernel_rfl) (by simp) ?_
              refine hcons rfl rfl (fun K hK => ?_) ?_
              · clear hHeld
                refine owp_store1 hS 2 rfl rfl rfl rfl rfl (show 6 < 7 by omega) (State.set6 _ _ _ _ _ _ _ _ _ []) ?_
                clear hS; intro _ hS; try simp only [List.cons_append, List.nil_append, List.append_nil, List.set_cons_zero, List.set_cons_succ] at hS
                refine hK.out _ _ ((hS.get 4 rfl).range 0 36 (by rw [List.drop_zero, List.take_of_length_le (Nat.le_of_eq Hcl.out)])) (fun hHeld => ?_)
                clear hK K
                simp only [Act.put, List.setIfInBounds_toArray, List.set_cons_succ, List.set_cons_zero]
                refine wpAnyH_done (by kernel_rfl) ?_ _
                clear hHeld
                go_wp2_with fail
                go_roundw
                case rel =>
                  refine ⟨k + 1, _, x7, by omega, by go_num, ?_, hS.pick [0, 1, 2, 3] rfl (by decide)⟩
                  rw [Hstep.out]
                  exact hrow
                case measure => simp [intOf]; omega
              exact AllReadyH.nil
            exact AllReadyH.nil
          exact AllReadyH.nil
        refine hcons rfl rfl (fun K hK => ?_) ?_
        · clear hHeld
          refine owp_bslice1 (vs := c.cells) hS rfl rfl Hcl.out (by decide) ?_
          clear hS; intro ge _ hS; try simp only [List.cons_append, List.nil_append, List.append_nil, List.set_cons_zero, List.set_cons_succ] at hS
          refine hK.out _ _ ((hS.get 4 rfl).range 0 36 (by rw [List.drop_zero, List.take_of_length_le (Nat.le_of_eq Hcl.out)])) (fun hHeld => ?_)
          clear hK K
          simp only [Act.put, List.setIfInBounds_toArray, List.set_cons_succ, List.set_cons_zero]
          refine wpAnyH_ready (rs := [1]) (by kernel_rfl) (by simp) ?_
          refine hcons rfl rfl (fun K hK => ?_) ?_
          · clear hHeld
            refine owp_load1 hS 2 rfl rfl rfl (show (State.cells ⟨ch, r, m0, m1, t0, t1, []⟩ (.slice a5 k c5))[6]? = some (.slice a5 k c5) from rfl) ?_
            refine hK.out _ _ ((hS.get 4 rfl).range 0 36 (by rw [List.drop_zero, List.take_of_length_le (Nat.le_of_eq Hcl.out)])) (fun hHeld => ?_)
            clear hK K
            simp only [Act.put, List.setIfInBounds_toArray, List.set_cons_succ, List.set_cons_zero]
            refine wpAnyH_ready (rs := [5]) (by kernel_rfl) (by simp) ?_
            refine hcons rfl rfl (fun K hK => ?_) ?_
            · clear hHeld
              refine owp_append hS 3 rfl rfl rfl hrow rfl ((RowV.lit 86 36 ge 1 c.cells (by rw [Hcl.out]) (by decide)).read (hS.get 5 rfl)) (Cond.one _) h63 hby ?_
              clear hS hrow
              intro v7 x7 _ hrow hS _
              obtain ⟨a7, c7, rfl⟩ := hrow.isSl
              try simp only [List.cons_append, List.nil_append, List.append_nil, List.set_cons_zero, List.set_cons_succ] at hS
              refine hK.out _ _ ((hS.get 4 rfl).range 0 36 (by rw [List.drop_zero, List.take_of_length_le (Nat.le_of_eq Hcl.out)])) (fun hHeld => ?_)
              clear hK K
              simp only [Act.put, List.setIfInBounds_toArray, List.set_cons_succ, List.set_cons_zero]
              refine htake (i := 6) (v := (.pointer (some ⟨go, 6, none⟩))) rfl (by kernel_rfl) (by kernel_rfl) (by kernel_rfl) (fun _ _ _ h => h) (Or.inl ⟨by rfl, by (intro w hSw; (try dsimp only at hSw); (try obtain hSw := hSw); go_simp; try with_reducible rfl)⟩) (by assumption) ?_; simp only [Act.put, List.setIfInBounds_toArray, List.set_cons_succ, List.set_cons_zero]
              refine wpAnyH_ready (rs := [7]) (by kernel_rfl) (by simp) ?_
              refine hcons rfl rfl (fun K hK => ?_) ?_
              · clear hHeld
                refine owp_store1 hS 2 rfl rfl rfl rfl rfl (show 6 < 7 by omega) (State.set6 _ _ _ _ _ _ _ _ _ []) ?_
                clear hS; intro _ hS; try simp only [List.cons_append, List.nil_append, List.append_nil, List.set_cons_zero, List.set_cons_succ] at hS
                refine hK.out _ _ ((hS.get 4 rfl).range 0 36 (by rw [List.drop_zero, List.take_of_length_le (Nat.le_of_eq Hcl.out)])) (fun hHeld => ?_)
                clear hK K
                simp only [Act.put, List.setIfInBounds_toArray, List.set_cons_succ, List.set_cons_zero]
                refine wpAnyH_done (by kernel_rfl) ?_ _
                clear hHeld
                go_wp2_with fail
                go_roundw
                case rel =>
                  refine ⟨k + 1, _, x7, by omega, by go_num, ?_, hS.pick [0, 1, 2, 3] rfl (by decide)⟩
                  rw [Hstep.out]
                  exact hrow
                case measure => simp [intOf]; omega
              exact AllReadyH.nil
            exact AllReadyH.nil
          exact AllReadyH.nil
        exact AllReadyH.nil
      exact AllReadyH.nil
    · have hkn : k = conds.length := by omega
      subst hkn
      rw [List.take_length] at hrow
      go_wp2_with (first | ((with_reducible show wpList _ _ _ (Oper.mk _ (Op.load _ _) _ _ _ _ :: _) _ _); refine wpl rfl ?_; refine (owp_loadW hS 2 rfl rfl rfl (by rfl) ?_)) | ((with_reducible show wpList _ _ _ (Oper.mk _ (Op.store _ _ _) _ _ _ _ :: _) _ _); refine wpl rfl ?_; refine (owp_storeW hS 1 rfl rfl rfl rfl (by rfl) (by rfl) (State.one _ _ rfl) ?_); clear hS; intro _ hS; try simp only [List.cons_append, List.nil_append, List.append_nil, List.set_cons_zero, List.set_cons_succ] at hS))
      (try simp only [Exit.inBlock, Exit.then]); refine bodyPost_ret (res_cell rfl rfl hS 1 rfl (by rfl)) rfl ?_
      exact ⟨_, x, rfl, hS.pick [3] rfl (by decide), hrow⟩

theorem deedTo_ok (d : Deed) (hd : d.Small) (cv av bv : Value) (w : World) (hc : RowR w 36 cv d.s.conds.length (condCells d.s.conds)) (ha : RowR w 32 av d.a.way.length (wayCells d.a.way)) (hb : RowR w 32 bv d.b.way.length (wayCells d.b.way)) :
    Calls Try.prog 26 #[.agg (d.cells cv av bv).toArray] w (DeedFromPost 50 86 w d) := by
  have hS := St.nil w
  have hfit := hd.fit
  have Hc := Lib.hid hc
  have Ha := Lib.hid ha
  have Hb := Lib.hid hb
  have Hfit := Lib.hid hfit
  have Hsc := Lib.hid (fun w' h => stateTo_ok d.s hd.s.hash cv w' h (by have := hd.s.conds; omega))
  have Hsa := Lib.hid (fun w' h => sigTo_ok d.a hd.a av w' h (by have := hd.wa; omega))
  have Hsb := Lib.hid (fun w' h => sigTo_ok d.b hd.b bv w' h (by have := hd.wb; omega))
  have Hgs := Lib.hid (Deed.gs (d := d) cv av bv)
  have Hga := Lib.hid (Deed.ga hfit cv av bv)
  have Hgb := Lib.hid (Deed.gb hfit cv av bv)
  have Hla := Lib.hid (hfit.la av)
  have Hlb := Lib.hid (hfit.lb bv)
  clear hc ha hb hfit hd
  generalize hcs : d.cells cv av bv = cs at *
  clear hcs
  go_enter Try.func26, Try.ntmps26
  go_upto_region 1 with (first
    | ((with_reducible show wpList _ _ _ (Oper.mk _ (Op.box _ _) _ _ _ _ :: _) _ _); refine wpl rfl ?_; refine owp_box hS rfl (vs := cs) rfl ?_; clear hS; intro gs _ hS; try simp only [List.cons_append, List.nil_append, List.append_nil, List.set_cons_zero, List.set_cons_succ] at hS)
    | ((with_reducible show wpList _ _ _ (Oper.mk (some 2) (Op.alloc _) _ _ _ _ :: _) _ _); refine wpl rfl ?_; refine (owp_allocAt hS 2 rfl rfl ?_); clear hS; intro gr _ hS; simp only [List.cons_append, List.nil_append] at hS))
  try simp only [Act.put, List.setIfInBounds_toArray, List.set_cons_succ, List.set_cons_zero]
  replace hS := hS.drew
  refine wp_region_held_drew (S := (fun w' => CellsAt w' ⟨gs, 0, none⟩ (d.s.cells cv) ∧ CellsAt w' ⟨gs, 7, none⟩ (d.a.cells av) ∧ CellsAt w' ⟨gs, 1033, none⟩ (d.b.cells bv))) (by kernel_rfl) ⟨(hS.get 0 rfl).range 0 7 Hgs.out, (hS.get 0 rfl).range 7 1026 Hga.out, (hS.get 0 rfl).range 1033 1026 Hgb.out⟩ (fun hHeld => ?_)
  refine htake (i := 0) (v := (.pointer (some ⟨gs, 0, none⟩))) rfl (by kernel_rfl) (by kernel_rfl) (by kernel_rfl) (fun _ _ _ h => h) (Or.inl ⟨by rfl, by (intro w hSw; (try dsimp only at hSw); (try obtain ⟨_, _, _⟩ := hSw); go_simp; try with_reducible rfl)⟩) (by assumption) ?_; simp only [Act.put, List.setIfInBounds_toArray, List.set_cons_succ, List.set_cons_zero]
  refine htake (i := 1) (v := (.agg (d.s.cells cv).toArray)) rfl (by kernel_rfl) (by kernel_rfl) (by kernel_rfl) (fun _ _ _ h => h) (Or.inl ⟨by rfl, yl_loadR rfl rfl (State.len _ _) (fun _ h => h.1)⟩) (by assumption) ?_; simp only [Act.put, List.setIfInBounds_toArray, List.set_cons_succ, List.set_cons_zero]
  refine htake (i := 3) (v := (.pointer (some ⟨gs, 7, none⟩))) rfl (by kernel_rfl) (by kernel_rfl) (by kernel_rfl) (fun _ _ _ h => h) (Or.inl ⟨by rfl, by (intro w hSw; (try dsimp only at hSw); (try obtain ⟨_, _, _⟩ := hSw); go_simp; try with_reducible rfl)⟩) (by assumption) ?_; simp only [Act.put, List.setIfInBounds_toArray, List.set_cons_succ, List.set_cons_zero]
  refine htake (i := 4) (v := (.pointer (some ⟨gs, 7, none⟩))) rfl (by kernel_rfl) (by kernel_rfl) (by kernel_rfl) (fun _ _ _ h => h) (Or.inl ⟨by rfl, by (intro w hSw; (try dsimp only at hSw); (try obtain ⟨_, _, _⟩ := hSw); go_simp; try with_reducible rfl)⟩) (by assumption) ?_; simp only [Act.put, List.setIfInBounds_toArray, List.set_cons_succ, List.set_cons_zero]
  refine htake (i := 5) (v := (.agg (d.a.cells av).toArray)) rfl (by kernel_rfl) (by kernel_rfl) (by kernel_rfl) (fun _ _ _ h => h) (Or.inl ⟨by rfl, yl_loadR rfl rfl Hla.out (fun _ h => h.2.1)⟩) (by assumption) ?_; simp only [Act.put, List.setIfInBounds_toArray, List.set_cons_succ, List.set_cons_zero]
  refine htake (i := 7) (v := (.pointer (some ⟨gs, 7, none⟩))) rfl (by kernel_rfl) (by kernel_rfl) (by kernel_rfl) (fun _ _ _ h => h) (Or.inl ⟨by rfl, by (intro w hSw; (try dsimp only at hSw); (try obtain ⟨_, _, _⟩ := hSw); go_simp; try with_reducible rfl)⟩) (by assumption) ?_; simp only [Act.put, List.setIfInBounds_toArray, List.set_cons_succ, List.set_cons_zero]
  refine htake (i := 8) (v := (.pointer (some ⟨gs, 1033, none⟩))) rfl (by kernel_rfl) (by kernel_rfl) (by kernel_rfl) (fun _ _ _ h => h) (Or.inl ⟨by rfl, by (intro w hSw; (try dsimp only at hSw); (try obtain ⟨_, _, _⟩ := hSw); go_simp; try with_reducible rfl)⟩) (by assumption) ?_; simp only [Act.put, List.setIfInBounds_toArray, List.set_cons_succ, List.set_cons_zero]
  refine htake (i := 9) (v := (.agg (d.b.cells bv).toArray)) rfl (by kernel_rfl) (by kernel_rfl) (by kernel_rfl) (fun _ _ _ h => h) (Or.inl ⟨by rfl, yl_loadR rfl rfl Hlb.out (fun _ h => h.2.2)⟩) (by assumption) ?_; simp only [Act.put, List.setIfInBounds_toArray, List.set_cons_succ, List.set_cons_zero]
  refine wpAnyH_ready (rs := [2]) (by kernel_rfl) (by simp) ?_
  refine hcons rfl rfl (fun K hK => ?_) ?_
  · clear hHeld
    refine owp_call rfl (by kernel_rfl) (args := #[.agg (d.s.cells cv).toArray]) rfl (Hsc.out _ (Hc.out.st0 hS)) ?_
    rintro e w5 ⟨cv2, x2, rfl, hc, hrowx⟩
    replace hS := hS.call0 hc
    try simp only [List.cons_append, List.nil_append, List.append_nil, List.set_cons_zero, List.set_cons_succ] at hS
    clear hc
    obtain ⟨a2, c2, rfl⟩ := hrowx.isSl
    refine ⟨_, rfl, ?_⟩
    refine hK.out _ _ ⟨(hS.get 0 rfl).range 0 7 Hgs.out, (hS.get 0 rfl).range 7 1026 Hga.out, (hS.get 0 rfl).range 1033 1026 Hgb.out⟩ (fun hHeld => ?_)
    clear hK K
    simp only [Act.put, List.setIfInBounds_toArray, List.set_cons_succ, List.set_cons_zero]
    refine wpAnyH_ready (rs := [6]) (by kernel_rfl) (by simp) ?_
    refine hcons rfl rfl (fun K hK => ?_) ?_
    · clear hHeld
      refine owp_call rfl (by kernel_rfl) (args := #[.agg (d.a.cells av).toArray]) rfl (Hsa.out _ (Ha.out.st0 hS)) ?_
      rintro e w6 ⟨av2, y2, rfl, hc, hrowy⟩
      replace hS := hS.call0 hc
      try simp only [List.cons_append, List.nil_append, List.append_nil, List.set_cons_zero, List.set_cons_succ] at hS
      clear hc
      obtain ⟨a3, c3, rfl⟩ := hrowy.isSl
      refine ⟨_, rfl, ?_⟩
      refine hK.out _ _ ⟨(hS.get 0 rfl).range 0 7 Hgs.out, (hS.get 0 rfl).range 7 1026 Hga.out, (hS.get 0 rfl).range 1033 1026 Hgb.out⟩ (fun hHeld => ?_)
      clear hK K
      simp only [Act.put, List.setIfInBounds_toArray, List.set_cons_succ, List.set_cons_zero]
      refine wpAnyH_ready (rs := [10]) (by kernel_rfl) (by simp) ?_
      refine hcons rfl rfl (fun K hK => ?_) ?_
      · clear hHeld
        refine owp_call rfl (by kernel_rfl) (args := #[.agg (d.b.cells bv).toArray]) rfl (Hsb.out _ (Hb.out.st0 hS)) ?_
        rintro e w7 ⟨bv2, z2, rfl, hc, hrowz⟩
        replace hS := hS.call0 hc
        try simp only [List.cons_append, List.nil_append, List.append_nil, List.set_cons_zero, List.set_cons_succ] at hS
        clear hc
        obtain ⟨a4, c4, rfl⟩ := hrowz.isSl
        refine ⟨_, rfl, ?_⟩
        refine hK.out _ _ ⟨(hS.get 0 rfl).range 0 7 Hgs.out, (hS.get 0 rfl).range 7 1026 Hga.out, (hS.get 0 rfl).range 1033 1026 Hgb.out⟩ (fun hHeld => ?_)
        clear hK K
        simp only [Act.put, List.setIfInBounds_toArray, List.set_cons_succ, List.set_cons_zero]
        refine htake (i := 11) (v := (.agg (d.a.cells (.slice a3 d.a.way.length c3) ++ d.b.cells (.slice a4 d.b.way.length c4)).toArray)) rfl (by kernel_rfl) (by kernel_rfl) (by kernel_rfl) (fun _ _ _ h => h) (Or.inl ⟨by rfl, yl_build rfl [(0, .agg (d.a.cells (.slice a3 d.a.way.length c3)).toArray), (1, .agg (d.b.cells (.slice a4 d.b.way.length c4)).toArray)] rfl (build_sigs d.a d.b _ _ Hfit.out.a Hfit.out.b)⟩) (by assumption) ?_; simp only [Act.put, List.setIfInBounds_toArray, List.set_cons_succ, List.set_cons_zero]
        refine htake (i := 12) (v := (.agg (d.cells (.slice a2 d.s.conds.length c2) (.slice a3 d.a.way.length c3) (.slice a4 d.b.way.length c4)).toArray)) rfl (by kernel_rfl) (by kernel_rfl) (by kernel_rfl) (fun _ _ _ h => h) (Or.inl ⟨by rfl, yl_build rfl [(0, .agg (d.s.cells (.slice a2 d.s.conds.length c2)).toArray), (1, .agg (d.a.cells (.slice a3 d.a.way.length c3) ++ d.b.cells (.slice a4 d.b.way.length c4)).toArray)] rfl (build_deed2 d Hfit.out _ _ _)⟩) (by assumption) ?_; simp only [Act.put, List.setIfInBounds_toArray, List.set_cons_succ, List.set_cons_zero]
        refine wpAnyH_ready (rs := [13]) (by kernel_rfl) (by simp) ?_
        refine hcons rfl rfl (fun K hK => ?_) ?_
        · clear hHeld
          refine owp_storeW hS 1 rfl rfl rfl rfl (Hfit.out.len _ _ _) (Deed.Fit.zero.len _ _ _) (Deed.one _ _ _ _ rfl rfl rfl) ?_
          clear hS; intro _ hS; try simp only [List.cons_append, List.nil_append, List.append_nil, List.set_cons_zero, List.set_cons_succ] at hS
          refine hK.out _ _ ⟨(hS.get 0 rfl).range 0 7 Hgs.out, (hS.get 0 rfl).range 7 1026 Hga.out, (hS.get 0 rfl).range 1033 1026 Hgb.out⟩ (fun hHeld => ?_)
          clear hK K
          simp only [Act.put, List.setIfInBounds_toArray, List.set_cons_succ, List.set_cons_zero]
          refine wpAnyH_done (by kernel_rfl) ?_ _
          clear hHeld
          go_wp2_with fail
          (try simp only [Exit.inBlock, Exit.then]); refine bodyPost_ret (res_cell rfl rfl hS 1 rfl (Hfit.out.len _ _ _)) rfl ?_
          exact ⟨_, _, _, x2, y2, z2, rfl, hS.pick [2, 3, 4] rfl (by decide), hrowx, hrowy, hrowz⟩
        exact AllReadyH.nil
      exact AllReadyH.nil
    exact AllReadyH.nil
  exact AllReadyH.nil


section
variable {d : Deed} (h : d.Fit) (cv av bv : Value)
include h
theorem Deed.gwa : (d.cells cv av bv)[1032]? = some av := by
  rw [Deed.cells, List.append_assoc, List.getElem?_append_right (by rw [State.len]; omega), State.len, List.getElem?_append_left (by rw [h.la]; omega)]
  exact Sig.get_way _ _ h.a
theorem Deed.gwb : (d.cells cv av bv)[2058]? = some bv := by
  rw [Deed.cells, List.getElem?_append_right (by rw [List.length_append, State.len, h.la]; omega), List.length_append, State.len, h.la]
  exact Sig.get_way _ _ h.b
theorem Deed.set_wa (v : Value) : (d.cells cv av bv).set 1032 v = d.cells cv v bv := by
  have e : (d.a.cells av).set 1025 v = d.a.cells v := Sig.set_way d.a.l d.a.key d.a.way d.a.way _ _ h.a
  rw [Deed.cells, List.append_assoc, List.set_append, if_neg (by rw [State.len]; omega), State.len, List.set_append, if_pos (by rw [h.la]; omega)]
  rw [show 1032 - 7 = 1025 from rfl, e]
  simp [Deed.cells]
theorem Deed.set_wb (v : Value) : (d.cells cv av bv).set 2058 v = d.cells cv av v := by
  have e : (d.b.cells bv).set 1025 v = d.b.cells v := Sig.set_way d.b.l d.b.key d.b.way d.b.way _ _ h.b
  rw [Deed.cells, List.set_append, if_neg (by rw [List.length_append, State.len, h.la]; omega), List.length_append, State.len, h.la]
  rw [show 2058 - (7 + 1026) = 1025 from rfl, e]
  simp [Deed.cells]
theorem Deed.set_sigs (a' b' : Sig) (av' bv' : Value) : (d.cells cv av bv).take 7 ++ (a'.cells av' ++ b'.cells bv') ++ (d.cells cv av bv).drop (7 + 2052) = Deed.cells ⟨d.s, a', b'⟩ cv av' bv' := by
  have e : (d.cells cv av bv).drop (7 + 2052) = [] := List.drop_eq_nil_of_le (by rw [h.len]; omega)
  have e2 : (d.cells cv av bv).take 7 = d.s.cells cv := by
    rw [Deed.cells, List.append_assoc, List.take_left' (State.len _ _)]
  rw [e, e2]
  simp [Deed.cells]
end

theorem condCells_one (l : List Cond) : ∀ v, v ∈ condCells l → v.oneCell' = true := by
  intro v hv
  obtain ⟨c, _, h⟩ := List.mem_flatMap.1 hv
  exact Cond.one c v h
theorem wayCells_one (l : List (List UInt8)) : ∀ v, v ∈ wayCells l → v.oneCell' = true := by
  intro v hv
  obtain ⟨c, _, h⟩ := List.mem_flatMap.1 hv
  exact bs_one c v h
def ClonePost (T : TypeId) (size : Nat) (w : World) (n : Nat) (xs : List Value) (e : Ending) (w' : World) : Prop :=
  ∃ v x, e = .returned v ∧ St w [] w' [x] ∧ RowV T size v n xs x
theorem cloneConds_ok (u : Value) (n : Nat) (xs : List Value) (w : World) (hu : RowR w 36 u n xs) (hn : n ≤ 1000) (h1 : ∀ v, v ∈ xs → v.oneCell' = true) :
    Calls Try.prog 74 #[u] w (ClonePost 86 36 w n xs) := by
  have hS := St.nil w
  have Hu := Lib.hid hu
  have h63 : 0 + n ≤ maxLen := by unfold maxLen; omega
  have hby : (0 + n) * 64 ≤ 140737488355328 := by omega
  have heq : ∀ (a : Option Addr) (n c : Nat) (w : World), (binOp .eql 29 (.slice a n c) (.slice none 0 0)).run Try.prog w = .ok (.bool a.isNone) w := fun a n c w => Lib.run_eql_slice_nil w 29 86 a n c 0 0 Try.underlying29
  rcases hu.2 with ⟨rfl, rfl⟩ | ⟨ad, cap, rfl, _, _, _⟩
  · go_enter Try.func74, Try.ntmps74
    go_wp2
    go_ret
    have hx : xs = [] := List.eq_nil_of_length_eq_zero (by simpa using hu.1)
    subst hx
    exact ⟨_, none, rfl, hS.addNone, RowV.nil _ _⟩
  · clear hu
    go_enter Try.func74, Try.ntmps74
    go_wp2_with (first
      | ((with_reducible show wpList _ _ _ (Oper.mk _ (Op.buildSlice _ _ _) _ _ _ _ :: _) _ _); refine wpl rfl ?_; refine owp_bslice0 hS rfl ?_; clear hS; intro g1 w1 hS; try simp only [List.cons_append, List.nil_append, List.append_nil, List.set_cons_zero, List.set_cons_succ] at hS)
      | ((with_reducible show wpList _ _ _ (Oper.mk _ (Op.call (Call.mk (Callee.builtin Builtin.append) _ _)) _ _ _ _ :: _) _ _); refine wpl rfl ?_; refine owp_append hS 0 rfl rfl rfl (RowV.lit 86 36 _ 0 [] rfl (Nat.zero_le _)) rfl (Hu.out.st0 hS) h1 h63 hby ?_; clear hS; intro v' x'' w2 hrow hS _; obtain ⟨a2, c2, rfl⟩ := hrow.isSl; simp only [Nat.zero_add, List.nil_append] at hrow; try simp only [List.cons_append, List.nil_append, List.append_nil, List.set_cons_zero, List.set_cons_succ] at hS))
    go_ret
    exact ⟨_, x'', rfl, hS, hrow⟩
theorem cloneWay_ok (u : Value) (n : Nat) (xs : List Value) (w : World) (hu : RowR w 32 u n xs) (hn : n ≤ 1000) (h1 : ∀ v, v ∈ xs → v.oneCell' = true) :
    Calls Try.prog 56 #[u] w (ClonePost 50 32 w n xs) := by
  have hS := St.nil w
  have Hu := Lib.hid hu
  have h63 : 0 + n ≤ maxLen := by unfold maxLen; omega
  have hby : (0 + n) * 32 ≤ 140737488355328 := by omega
  have heq : ∀ (a : Option Addr) (n c : Nat) (w : World), (binOp .eql 37 (.slice a n c) (.slice none 0 0)).run Try.prog w = .ok (.bool a.isNone) w := fun a n c w => Lib.run_eql_slice_nil w 37 50 a n c 0 0 Try.underlying37
  rcases hu.2 with ⟨rfl, rfl⟩ | ⟨ad, cap, rfl, _, _, _⟩
  · go_enter Try.func56, Try.ntmps56
    go_wp2
    go_ret
    have hx : xs = [] := List.eq_nil_of_length_eq_zero (by simpa using hu.1)
    subst hx
    exact ⟨_, none, rfl, hS.addNone, RowV.nil _ _⟩
  · clear hu
    go_enter Try.func56, Try.ntmps56
    go_wp2_with (first
      | ((with_reducible show wpList _ _ _ (Oper.mk _ (Op.buildSlice _ _ _) _ _ _ _ :: _) _ _); refine wpl rfl ?_; refine owp_bslice0 hS rfl ?_; clear hS; intro g1 w1 hS; try simp only [List.cons_append, List.nil_append, List.append_nil, List.set_cons_zero, List.set_cons_succ] at hS)
      | ((with_reducible show wpList _ _ _ (Oper.mk _ (Op.call (Call.mk (Callee.builtin Builtin.append) _ _)) _ _ _ _ :: _) _ _); refine wpl rfl ?_; refine owp_append hS 0 rfl rfl rfl (RowV.lit 50 32 _ 0 [] rfl (Nat.zero_le _)) rfl (Hu.out.st0 hS) h1 h63 hby ?_; clear hS; intro v' x'' w2 hrow hS _; obtain ⟨a2, c2, rfl⟩ := hrow.isSl; simp only [Nat.zero_add, List.nil_append] at hrow; try simp only [List.cons_append, List.nil_append, List.append_nil, List.set_cons_zero, List.set_cons_succ] at hS))
    go_ret
    exact ⟨_, x'', rfl, hS, hrow⟩

theorem stateTwin_ok (s : State) (cv : Value) (w : World) (hu : RowR w 36 cv s.conds.length (condCells s.conds)) (hn : s.conds.length ≤ 1000) :
    Calls Try.prog 55 #[.agg (s.cells cv).toArray] w (StateFromPost 86 w s) := by
  have hS := St.nil w
  obtain ⟨ch, r, m0, m1, t0, t1, conds⟩ := s
  simp only at hu hn
  have Hu := Lib.hid hu
  clear hu
  go_enter Try.func55, Try.ntmps55
  go_wp2_with (first
    | ((with_reducible show wpList _ _ _ (Oper.mk _ (Op.box _ _) _ _ _ _ :: _) _ _); refine wpl rfl ?_; refine owp_box hS rfl (vs := State.cells ⟨ch, r, m0, m1, t0, t1, conds⟩ cv) rfl ?_; clear hS; intro gs _ hS; try simp only [List.cons_append, List.nil_append, List.append_nil, List.set_cons_zero, List.set_cons_succ] at hS)
    | ((with_reducible show wpList _ _ _ (Oper.mk (some 2) (Op.alloc _) _ _ _ _ :: _) _ _); refine wpl rfl ?_; refine (owp_allocAt hS 2 rfl rfl ?_); clear hS; intro gr _ hS; simp only [List.cons_append, List.nil_append] at hS)
    | ((with_reducible show wpList _ _ _ (Oper.mk _ (Op.load _ _) _ _ _ _ :: _) _ _); refine wpl rfl ?_; refine owp_load1 hS 0 rfl rfl rfl (show (State.cells ⟨ch, r, m0, m1, t0, t1, conds⟩ cv)[6]? = some cv from rfl) ?_))
  refine (cloneConds_ok cv _ _ _ (Hu.out.st0 hS) hn (condCells_one _)).mono ?_
  rintro e w2 ⟨v, x, rfl, hc, hrow⟩
  replace hS := hS.call0 hc
  try simp only [List.cons_append, List.nil_append, List.append_nil, List.set_cons_zero, List.set_cons_succ] at hS
  clear hc
  obtain ⟨a1, c1, rfl⟩ := hrow.isSl
  have Hrow := Lib.hid hrow
  clear hrow
  go_wp2_with (first
    | ((with_reducible show wpList _ _ _ (Oper.mk _ (Op.store _ _ _) _ _ _ _ :: _) _ _); refine wpl rfl ?_; refine owp_store1 hS 0 rfl rfl rfl rfl rfl (show 6 < 7 by omega) (State.set6 _ _ _ _ _ _ _ _ _ conds) ?_; clear hS; intro _ hS; try simp only [List.cons_append, List.nil_append, List.append_nil, List.set_cons_zero, List.set_cons_succ] at hS)
    | ((with_reducible show wpList _ _ _ (Oper.mk _ (Op.load _ _) _ _ _ _ :: _) _ _); refine wpl rfl ?_; refine (owp_loadW hS 0 rfl rfl rfl (by rfl) ?_))
    | ((with_reducible show wpList _ _ _ (Oper.mk _ (Op.store _ _ _) _ _ _ _ :: _) _ _); refine wpl rfl ?_; refine (owp_storeW hS 1 rfl rfl rfl rfl (by rfl) (by rfl) (State.one _ _ rfl) ?_); clear hS; intro _ hS; try simp only [List.cons_append, List.nil_append, List.append_nil, List.set_cons_zero, List.set_cons_succ] at hS))
  (try simp only [Exit.inBlock, Exit.then]); refine bodyPost_ret (res_cell rfl rfl hS 1 rfl (by rfl)) rfl ?_
  exact ⟨_, x, rfl, hS.pick [2] rfl (by decide), Hrow.out⟩

theorem deedTwin_ok (d : Deed) (hd : d.Small) (cv av bv : Value) (w : World) (hc : RowR w 36 cv d.s.conds.length (condCells d.s.conds)) (ha : RowR w 32 av d.a.way.length (wayCells d.a.way)) (hb : RowR w 32 bv d.b.way.length (wayCells d.b.way)) :
    Calls Try.prog 28 #[.agg (d.cells cv av bv).toArray] w (DeedFromPost 50 86 w d) := by
  have hS := St.nil w
  have hfit := hd.fit
  have Hc := Lib.hid hc
  have Ha := Lib.hid ha
  have Hb := Lib.hid hb
  have Hfit := Lib.hid hfit
  have Hst := Lib.hid (fun w' h => stateTwin_ok d.s cv w' h (by have := hd.s.conds; omega))
  have Hca := Lib.hid (fun w' h => cloneWay_ok av d.a.way.length (wayCells d.a.way) w' h (by have := hd.wa; omega) (wayCells_one _))
  have Hcb := Lib.hid (fun w' h => cloneWay_ok bv d.b.way.length (wayCells d.b.way) w' h (by have := hd.wb; omega) (wayCells_one _))
  obtain ⟨a0, c0, rfl⟩ := hc.isSl
  obtain ⟨a1, c1, rfl⟩ := ha.isSl
  obtain ⟨a2, c2, rfl⟩ := hb.isSl
  clear hc ha hb hfit hd
  go_enter Try.func28, Try.ntmps28
  go_wp2_with (first
    | ((with_reducible show wpList _ _ _ (Oper.mk _ (Op.box _ _) _ _ _ _ :: _) _ _); refine wpl rfl ?_; refine owp_box hS rfl (vs := d.cells (.slice a0 d.s.conds.length c0) (.slice a1 d.a.way.length c1) (.slice a2 d.b.way.length c2)) rfl ?_; clear hS; intro gs _ hS; try simp only [List.cons_append, List.nil_append, List.append_nil, List.set_cons_zero, List.set_cons_succ] at hS)
    | ((with_reducible show wpList _ _ _ (Oper.mk (some 2) (Op.alloc _) _ _ _ _ :: _) _ _); refine wpl rfl ?_; refine (owp_allocAt hS 2 rfl rfl ?_); clear hS; intro gr _ hS; simp only [List.cons_append, List.nil_append] at hS)
    | ((with_reducible show wpList _ _ _ (Oper.mk _ (Op.load _ _) _ _ _ _ :: _) _ _); refine wpl rfl ?_; refine owp_load hS 0 rfl rfl rfl (Deed.gs _ _ _) rfl ?_))
  refine (Hst.out _ (Hc.out.st0 hS)).mono ?_
  rintro e w2 ⟨cv3, x, rfl, hc, hrow⟩
  replace hS := hS.call0 hc
  try simp only [List.cons_append, List.nil_append, List.append_nil, List.set_cons_zero, List.set_cons_succ] at hS
  clear hc
  obtain ⟨a3, c3, rfl⟩ := hrow.isSl
  have Hx := Lib.hid hrow
  clear hrow
  go_wp2_with (first
    | ((with_reducible show wpList _ _ _ (Oper.mk _ (Op.store _ _ _) _ _ _ _ :: _) _ _); refine wpl rfl ?_; refine owp_store hS 0 rfl rfl rfl rfl (State.len _ _) (by rw [Hfit.out.len]; omega) (State.one _ _ rfl) (Deed.set_s _ _ _ _ _) ?_; clear hS; intro _ hS; try simp only [List.cons_append, List.nil_append, List.append_nil, List.set_cons_zero, List.set_cons_succ] at hS))
  go_loopw [3, 8] (fun _ i wr => (i = .int .i64 0 ∧ St w [] wr [some (gs, d.cells (.slice a3 d.s.conds.length c3) (.slice a1 d.a.way.length c1) (.slice a2 d.b.way.length c2), 42), some (gr, Deed.zero.cells (.slice none 0 0) (.slice none 0 0) (.slice none 0 0), 42), x]) ∨
      (i = .int .i64 1 ∧ ∃ av4 y, RowV 50 32 av4 d.a.way.length (wayCells d.a.way) y ∧ St w [] wr [some (gs, d.cells (.slice a3 d.s.conds.length c3) av4 (.slice a2 d.b.way.length c2), 42), some (gr, Deed.zero.cells (.slice none 0 0) (.slice none 0 0) (.slice none 0 0), 42), x, y]) ∨
      (i = .int .i64 2 ∧ ∃ av4 y bv5 z, RowV 50 32 av4 d.a.way.length (wayCells d.a.way) y ∧ RowV 50 32 bv5 d.b.way.length (wayCells d.b.way) z ∧ St w [] wr [some (gs, d.cells (.slice a3 d.s.conds.length c3) av4 bv5, 42), some (gr, Deed.zero.cells (.slice none 0 0) (.slice none 0 0) (.slice none 0 0), 42), x, y, z])) (fun _ i _ => 2 - (intOf i).toNat)
  case atStart => exact .inl ⟨rfl, hS⟩
  case round =>
    clear hS
    rcases hrel with ⟨rfl, hS⟩ | ⟨rfl, av4, y, hrowy, hS⟩ | ⟨rfl, av4, y, bv5, z, hrowy, hrowz, hS⟩
    · have Hg := Lib.hid (Deed.gwa Hfit.out (.slice a3 d.s.conds.length c3) (.slice a1 d.a.way.length c1) (.slice a2 d.b.way.length c2))
      go_wp2_with (first
        | ((with_reducible show wpList _ _ _ (Oper.mk _ (Op.load _ _) _ _ _ _ :: _) _ _); refine wpl rfl ?_; refine owp_load1 hS 0 rfl rfl rfl Hg.out ?_))
      refine (Hca.out _ (Ha.out.st0 hS)).mono ?_
      rintro e w3 ⟨v, y, rfl, hc, hrow⟩
      replace hS := hS.call0 hc
      try simp only [List.cons_append, List.nil_append, List.append_nil, List.set_cons_zero, List.set_cons_succ] at hS
      clear hc
      obtain ⟨a4, c4, rfl⟩ := hrow.isSl
      have Hy := Lib.hid hrow
      clear hrow
      go_wp2_with (first
        | ((with_reducible show wpList _ _ _ (Oper.mk _ (Op.store _ _ _) _ _ _ _ :: _) _ _); refine wpl rfl ?_; refine owp_store1 hS 0 rfl rfl rfl rfl rfl (by rw [Hfit.out.len]; omega) (Deed.set_wa Hfit.out _ _ _ _) ?_; clear hS; intro _ hS; try simp only [List.cons_append, List.nil_append, List.append_nil, List.set_cons_zero, List.set_cons_succ] at hS))
      go_roundw
      case rel => exact .inr (.inl ⟨by go_num, _, y, Hy.out, hS⟩)
      case measure => simp [intOf]
    · obtain ⟨a4, c4, rfl⟩ := hrowy.isSl
      have Hy := Lib.hid hrowy
      clear hrowy
      have Hg := Lib.hid (Deed.gwb Hfit.out (.slice a3 d.s.conds.length c3) (.slice a4 d.a.way.length c4) (.slice a2 d.b.way.length c2))
      go_wp2_with (first
        | ((with_reducible show wpList _ _ _ (Oper.mk _ (Op.load _ _) _ _ _ _ :: _) _ _); refine wpl rfl ?_; refine owp_load1 hS 0 rfl rfl rfl Hg.out ?_))
      refine (Hcb.out _ (Hb.out.st0 hS)).mono ?_
      rintro e w3 ⟨v, z, rfl, hc, hrow⟩
      replace hS := hS.call0 hc
      try simp only [List.cons_append, List.nil_append, List.append_nil, List.set_cons_zero, List.set_cons_succ] at hS
      clear hc
      obtain ⟨a5, c5, rfl⟩ := hrow.isSl
      have Hz := Lib.hid hrow
      clear hrow
      go_wp2_with (first
        | ((with_reducible show wpList _ _ _ (Oper.mk _ (Op.store _ _ _) _ _ _ _ :: _) _ _); refine wpl rfl ?_; refine owp_store1 hS 0 rfl rfl rfl rfl rfl (by rw [Hfit.out.len]; omega) (Deed.set_wb Hfit.out _ _ _ _) ?_; clear hS; intro _ hS; try simp only [List.cons_append, List.nil_append, List.append_nil, List.set_cons_zero, List.set_cons_succ] at hS))
      go_roundw
      case rel => exact .inr (.inr ⟨by go_num, _, y, _, z, Hy.out, Hz.out, hS⟩)
      case measure => simp [intOf]
    · obtain ⟨a4, c4, rfl⟩ := hrowy.isSl
      obtain ⟨a5, c5, rfl⟩ := hrowz.isSl
      have Hy := Lib.hid hrowy
      have Hz := Lib.hid hrowz
      clear hrowy hrowz
      go_wp2_with (first | ((with_reducible show wpList _ _ _ (Oper.mk _ (Op.load _ _) _ _ _ _ :: _) _ _); refine wpl rfl ?_; refine (owp_loadW hS 0 rfl rfl rfl (Hfit.out.len _ _ _) ?_)) | ((with_reducible show wpList _ _ _ (Oper.mk _ (Op.store _ _ _) _ _ _ _ :: _) _ _); refine wpl rfl ?_; refine (owp_storeW hS 1 rfl rfl rfl rfl (Hfit.out.len _ _ _) (Deed.Fit.zero.len _ _ _) (Deed.one _ _ _ _ rfl rfl rfl) ?_); clear hS; intro _ hS; try simp only [List.cons_append, List.nil_append, List.append_nil, List.set_cons_zero, List.set_cons_succ] at hS))
      (try simp only [Exit.inBlock, Exit.then]); refine bodyPost_ret (res_cell rfl rfl hS 1 rfl (Hfit.out.len _ _ _)) rfl ?_
      exact ⟨_, _, _, x, y, z, rfl, hS.pick [2, 3, 4] rfl (by decide), Hx.out, Hy.out, Hz.out⟩

end Go.Proofs.Ytldmkafobbemjaa
