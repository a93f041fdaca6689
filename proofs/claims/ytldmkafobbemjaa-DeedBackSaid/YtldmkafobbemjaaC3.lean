/-
  A state turned into the document's.
-/
import Derived.Test.YtldmkafobbemjaaC1
import Derived.Test.YtldmkafobbemjaaC2
import Derived.Test.YtldmkafobbemjaaB2
namespace Go.Proofs.Ytldmkafobbemjaa
set_option linter.unusedSimpArgs false
set_option linter.unusedVariables false
open Go Go.RowKit
set_option maxRecDepth 100000
set_option maxHeartbeats 2000000

theorem condCells_take_succ (l : List Cond) (k : Nat) (h : k < l.length) : condCells (l.take (k + 1)) = condCells (l.take k) ++ l[k].cells := by
  rw [List.take_succ_eq_append_getElem h, condCells_snoc]
theorem build_stateR (ch r m0 m1 t0 t1 : Nat) (w : World) : (Instr.build 59 [(0, .int .u32 ch), (1, .int .u64 r), (2, .agg #[.int .u64 m0, .int .u64 m1]), (3, .agg #[.int .u64 t0, .int .u64 t1])].toArray).run Try.prog w
    = .ok (.agg (State.cells ⟨ch, r, m0, m1, t0, t1, []⟩ (.slice none 0 0)).toArray) w := by kernel_rfl
theorem build_stateP (ch r m0 m1 t0 t1 : Nat) (w : World) : (Instr.build 31 [(0, .int .u32 ch), (1, .int .u64 r), (2, .agg #[.int .u64 m0, .int .u64 m1]), (3, .agg #[.int .u64 t0, .int .u64 t1])].toArray).run Try.prog w
    = .ok (.agg (State.cells ⟨ch, r, m0, m1, t0, t1, []⟩ (.slice none 0 0)).toArray) w := by kernel_rfl

def StateFromPost (T : TypeId) (w : World) (s : State) (e : Ending) (w' : World) : Prop :=
  ∃ cv x, e = .returned (.agg (s.cells cv).toArray) ∧ St w [] w' [x] ∧ RowV T 36 cv s.conds.length (condCells s.conds) x

theorem stateFrom_ok (s : State) (hh : ∀ c, c ∈ s.conds → c.hash.length = 32) (cv : Value) (w : World) (hv : RowR w 36 cv s.conds.length (condCells s.conds)) (hl : s.conds.length ≤ 1000) :
    Calls Try.prog 18 #[.agg (s.cells cv).toArray] w (StateFromPost 91 w s) := by
  have hS := St.nil w
  obtain ⟨ch, r, m0, m1, t0, t1, conds⟩ := s
  simp only at hv hl hh
  obtain ⟨a0, c0, rfl⟩ := hv.isSl
  have Hv := Lib.hid hv
  have Hh := Lib.hid hh
  have Hb := Lib.hid (build_stateR ch r m0 m1 t0 t1)
  have Hcf := Lib.hid condFrom_ok
  clear hv hh
  go_enter Try.func18, Try.ntmps18
  go_wp2_with (first
    | ((with_reducible show wpList _ _ _ (Oper.mk _ (Op.box _ _) _ _ _ _ :: _) _ _); refine wpl rfl ?_; refine owp_box hS rfl (vs := State.cells ⟨ch, r, m0, m1, t0, t1, conds⟩ (.slice a0 conds.length c0)) rfl ?_; clear hS; intro gs _ hS; try simp only [List.cons_append, List.nil_append, List.append_nil, List.set_cons_zero, List.set_cons_succ] at hS)
    | ((with_reducible show wpList _ _ _ (Oper.mk (some 2) (Op.alloc _) _ _ _ _ :: _) _ _); refine wpl rfl ?_; refine (owp_allocAt hS 2 rfl rfl ?_); clear hS; intro gr _ hS; simp only [List.cons_append, List.nil_append] at hS)
    | ((with_reducible show wpList _ _ _ (Oper.mk _ (Op.load _ _) _ _ _ _ :: _) _ _); refine wpl rfl ?_; first
        | refine owp_load1 hS 0 rfl rfl rfl (show (State.cells ⟨ch, r, m0, m1, t0, t1, conds⟩ (.slice a0 conds.length c0))[0]? = some (.int .u32 ch) from rfl) ?_
        | refine owp_load1 hS 0 rfl rfl rfl (show (State.cells ⟨ch, r, m0, m1, t0, t1, conds⟩ (.slice a0 conds.length c0))[1]? = some (.int .u64 r) from rfl) ?_
        | refine owp_load1 hS 0 rfl rfl rfl (show (State.cells ⟨ch, r, m0, m1, t0, t1, conds⟩ (.slice a0 conds.length c0))[6]? = some (.slice a0 conds.length c0) from rfl) ?_
        | refine owp_load hS 0 rfl rfl rfl (show ((State.cells ⟨ch, r, m0, m1, t0, t1, conds⟩ (.slice a0 conds.length c0)).drop 2).take 2 = [.int .u64 m0, .int .u64 m1] from rfl) rfl ?_
        | refine owp_load hS 0 rfl rfl rfl (show ((State.cells ⟨ch, r, m0, m1, t0, t1, conds⟩ (.slice a0 conds.length c0)).drop 4).take 2 = [.int .u64 t0, .int .u64 t1] from rfl) rfl ?_)
    | ((with_reducible show wpList _ _ _ (Oper.mk _ (Op.build _ _) _ _ _ _ :: _) _ _); refine wpl rfl ?_; refine owp_build rfl [(0, .int .u32 ch), (1, .int .u64 r), (2, .agg #[.int .u64 m0, .int .u64 m1]), (3, .agg #[.int .u64 t0, .int .u64 t1])] rfl (Hb.out _) ?_)
    | ((with_reducible show wpList _ _ _ (Oper.mk (some 3) (Op.alloc _) _ _ _ _ :: _) _ _); refine wpl rfl ?_; refine (owp_allocAt hS 3 rfl rfl ?_); clear hS; intro go _ hS; simp only [List.cons_append, List.nil_append] at hS)
    | ((with_reducible show wpList _ _ _ (Oper.mk _ (Op.store _ _ _) _ _ _ _ :: _) _ _); refine wpl rfl ?_; refine (owp_storeW hS 2 rfl rfl rfl rfl (by rfl) (by rfl) (State.one _ _ rfl) ?_); clear hS; intro _ hS; try simp only [List.cons_append, List.nil_append, List.append_nil, List.set_cons_zero, List.set_cons_succ] at hS))
  replace hS := hS.addNone
  try simp only [List.cons_append, List.nil_append, List.append_nil, List.set_cons_zero, List.set_cons_succ] at hS
  go_loopw [5, 18] (fun _ i wr => ∃ (k : Nat) (cv' : Value) (x : Ent), k ≤ conds.length ∧ i = .int .i64 k ∧ RowV 91 36 cv' k (condCells (conds.take k)) x ∧
      St w [] wr [some (gs, State.cells ⟨ch, r, m0, m1, t0, t1, conds⟩ (.slice a0 conds.length c0), 31), some (gr, State.zero.cells (.slice none 0 0), 59), some (go, State.cells ⟨ch, r, m0, m1, t0, t1, []⟩ cv', 59), x]) (fun _ i _ => conds.length - (intOf i).toNat)
  case atStart => exact ⟨0, .slice none 0 0, none, Nat.zero_le _, rfl, RowV.nil _ _, hS⟩
  case round =>
    clear hS
    obtain ⟨k, cv', x, hk, rfl, hrow, hS⟩ := hrel
    obtain ⟨a5, c5, rfl⟩ := hrow.isSl
    by_cases hlt : k < conds.length
    · obtain ⟨g, off, rfl, hcs⟩ := Hv.out.cellsAll k hlt
      rw [condCells_drop conds Hh.out k hlt] at hcs
      have Hcs := Lib.hid hcs
      have Hc32 := Lib.hid (Hh.out _ (List.getElem_mem hlt))
      have Hstep := Lib.hid (condCells_take_succ conds k hlt)
      have h63 : k + 1 ≤ maxLen := by unfold maxLen; omega
      have hby : (k + 1) * 64 ≤ 140737488355328 := by omega
      clear hcs
      generalize conds[k] = c at *
      generalize condCells (conds.take k) = rows at *
      have Hcl := Lib.hid (Cond.len c Hc32.out)
      have Hcc := Lib.hid (Hcf.out c Hc32.out)
      go_wp2_with (first
        | ((with_reducible show wpList _ _ _ (Oper.mk _ (Op.load _ _) _ _ _ _ :: _) _ _); refine wpl rfl ?_; refine owp_loadR rfl rfl (Hcs.out _ _ hS) Hcl.out ?_)
        | ((with_reducible show wpList _ _ _ (Oper.mk (some 5) (Op.alloc _) _ _ _ _ :: _) _ _); refine wpl rfl ?_; refine (owp_allocAt hS 5 rfl rfl ?_); clear hS; intro gd _ hS; simp only [List.cons_append, List.nil_append] at hS)
        | ((with_reducible show wpList _ _ _ (Oper.mk _ (Op.store _ _ _) _ _ _ _ :: _) _ _); refine wpl rfl ?_; refine (owp_storeW hS 4 rfl rfl rfl rfl (Hcl.out) (Cond.len Cond.zero (zb_length 32)) (Cond.one _) ?_); clear hS; intro _ hS; try simp only [List.cons_append, List.nil_append, List.append_nil, List.set_cons_zero, List.set_cons_succ] at hS))
      try simp only [Act.put, List.setIfInBounds_toArray, List.set_cons_succ, List.set_cons_zero]
      replace hS := hS.drew
      refine wp_region_held_drew (S := (fun w' => CellsAt w' ⟨gd, 0, none⟩ c.cells)) (by kernel_rfl) ((hS.get 4 rfl).range 0 36 (by rw [List.drop_zero, List.take_of_length_le (Nat.le_of_eq Hcl.out)])) (fun hHeld => ?_)
      refine htake (i := 0) (v := (.pointer (some ⟨go, 6, none⟩))) rfl (by kernel_rfl) (by kernel_rfl) (by kernel_rfl) (fun _ _ _ h => h) (Or.inl ⟨by rfl, by (intro w hSw; (try dsimp only at hSw); (try obtain hSw := hSw); go_simp; try with_reducible rfl)⟩) (by assumption) ?_; simp only [Act.put, List.setIfInBounds_toArray, List.set_cons_succ, List.set_cons_zero]
      refine htake (i := 2) (v := (.agg c.cells.toArray)) rfl (by kernel_rfl) (by kernel_rfl) (by kernel_rfl) (fun _ _ _ h => h) (Or.inl ⟨by rfl, yl_loadR rfl rfl Hcl.out (fun _ h => h)⟩) (by assumption) ?_; simp only [Act.put, List.setIfInBounds_toArray, List.set_cons_succ, List.set_cons_zero]
      refine wpAnyH_ready (rs := [1, 3]) (by kernel_rfl) (by simp) ?_
      refine hcons rfl rfl (fun K hK => ?_) ?_
      · clear hHeld
        refine owp_load1 hS 2 rfl rfl rfl (show (State.cells ⟨ch, r, m0, m1, t0, t1, []⟩ (.slice a5 k c5))[6]? = some (.slice a5 k c5) from rfl) ?_
        refine hK.out _ _ ((hS.get 4 rfl).range 0 36 (by rw [List.drop_zero, List.take_of_length_le (Nat.le_of_eq Hcl.out)])) (fun hHeld => ?_)
        clear hK K
        simp only [Act.put, List.setIfInBounds_toArray, List.set_cons_succ, List.set_cons_zero]
        refine wpAnyH_ready (rs := [3]) (by kernel_rfl) (by simp) ?_
        refine hcons rfl rfl (fun K hK => ?_) ?_
        · clear hHeld
          refine owp_call rfl (by kernel_rfl) (args := #[.agg c.cells.toArray]) rfl (Hcc.out _) ?_
          rintro e w5 ⟨rfl, hc⟩
          replace hS := hS.call0 hc
          try simp only [List.cons_append, List.nil_append, List.append_nil, List.set_cons_zero, List.set_cons_succ] at hS
          clear hc
          refine ⟨_, rfl, ?_⟩
          refine hK.out _ _ ((hS.get 4 rfl).range 0 36 (by rw [List.drop_zero, List.take_of_length_le (Nat.le_of_eq Hcl.out)])) (fun hHeld => ?_)
          clear hK K
          simp only [Act.put, List.setIfInBounds_toArray, List.set_cons_succ, List.set_cons_zero]
          refine wpAnyH_ready (rs := [4]) (by kernel_rfl) (by simp) ?_
          refine hcons rfl rfl (fun K hK => ?_) ?_
          · clear hHeld
            refine owp_bslice1 (vs := c.cells) hS rfl rfl Hcl.out (by decide) ?_
            clear hS; intro ge _ hS; try simp only [List.cons_append, List.nil_append, List.append_nil, List.set_cons_zero, List.set_cons_succ] at hS
            refine hK.out _ _ ((hS.get 4 rfl).range 0 36 (by rw [List.drop_zero, List.take_of_length_le (Nat.le_of_eq Hcl.out)])) (fun hHeld => ?_)
            clear hK K
            simp only [Act.put, List.setIfInBounds_toArray, List.set_cons_succ, List.set_cons_zero]
            refine wpAnyH_ready (rs := [5]) (by kernel_rfl) (by simp) ?_
            refine hcons rfl rfl (fun K hK => ?_) ?_
            · clear hHeld
              refine owp_append hS 3 rfl rfl rfl hrow rfl ((RowV.lit 91 36 ge 1 c.cells (by rw [Hcl.out]) (by decide)).read (hS.get 5 rfl)) (Cond.one _) h63 hby ?_
              clear hS hrow
              intro v7 x7 _ hrow hS _
              obtain ⟨a7, c7, rfl⟩ := hrow.isSl
              try simp only [List.cons_append, List.nil_append, List.append_nil, List.set_cons_zero, List.set_cons_succ] at hS
              refine hK.out _ _ ((hS.get 4 rfl).range 0 36 (by rw [List.drop_zero, List.take_of_length_le (Nat.le_of_eq Hcl.out)])) (fun hHeld => ?_)
              clear hK K
              simp only [Act.put, List.setIfInBounds_toArray, List.set_cons_succ, List.set_cons_zero]
              refine htake (i := 6) (v := (.pointer (some ⟨go, 6, none⟩))) rfl (by kernel_rfl) (by kernel_rfl) (by kernel_rfl) (fun _ _ _ h => h) (Or.inl ⟨by rfl, by (intro w hSw; (try dsimp only at hSw); (try obtain hSw := hSw); go_simp; try with_reducible rfl)⟩) (by assumption) ?_; simp only [Act.put, List.setIfInBounds_toArray, List.set_cons_succ, List.set_cons_zero]
              refine wpAnyH_ready (rs := [7]) (by kernel_rfl) (by simp) ?_
              refine hcons rfl rfl (fun K hK => ?_) ?_
              · clear hHeld
                refine owp_store1 hS 2 rfl rfl rfl rfl rfl (show 6 < 7 by omega) (State.set6 _ _ _ _ _ _ _ _ _ []) ?_
                clear hS; intro _ hS; try simp only [List.cons_append, List.nil_append, List.append_nil, List.set_cons_zero, List.set_cons_succ] at hS
                refine hK.out _ _ ((hS.get 4 rfl).range 0 36 (by rw [List.drop_zero, List.take_of_length_le (Nat.le_of_eq Hcl.out)])) (fun hHeld => ?_)
                clear hK K
                simp only [Act.put, List.setIfInBounds_toArray, List.set_cons_succ, List.set_cons_zero]
                refine wpAnyH_done (by kernel_rfl) ?_ _
                clear hHeld
                go_wp2_with fail
                go_roundw
                case rel =>
                  refine ⟨k + 1, _, x7, by omega, by go_num, ?_, hS.pick [0, 1, 2, 3] rfl (by decide)⟩
                  rw [Hstep.out]
                  exact hrow
                case measure => simp [intOf]; omega
              exact AllReadyH.nil
            exact AllReadyH.nil
          exact AllReadyH.nil
        exact AllReadyH.nil
      refine hcons rfl rfl (fun K hK => ?_) ?_
      · clear hHeld
        refine owp_call rfl (by kernel_rfl) (args := #[.agg c.cells.toArray]) rfl (Hcc.out _) ?_
        rintro e w5 ⟨rfl, hc⟩
        replace hS := hS.call0 hc
        try simp only [List.cons_append, List.nil_append, List.append_nil, List.set_cons_zero, List.set_cons_succ] at hS
        clear hc
        refine ⟨_, rfl, ?_⟩
        refine hK.out _ _ ((hS.get 4 rfl).range 0 36 (by rw [List.drop_zero, List.take_of_length_le (Nat.le_of_eq Hcl.out)])) (fun hHeld => ?_)
        clear hK K
        simp only [Act.put, List.setIfInBounds_toArray, List.set_cons_succ, List.set_cons_zero]
        refine wpAnyH_ready (rs := [1, 4]) (by kernel_rfl) (by simp) ?_
        refine hcons rfl rfl (fun K hK => ?_) ?_
        · clear hHeld
          refine owp_load1 hS 2 rfl rfl rfl (show (State.cells ⟨ch, r, m0, m1, t0, t1, []⟩ (.slice a5 k c5))[6]? = some (.slice a5 k c5) from rfl) ?_
          refine hK.out _ _ ((hS.get 4 rfl).range 0 36 (by rw [List.drop_zero, List.take_of_length_le (Nat.le_of_eq Hcl.out)])) (fun hHeld => ?_)
          clear hK K
          simp only [Act.put, List.setIfInBounds_toArray, List.set_cons_succ, List.set_cons_zero]
          refine wpAnyH_ready (rs := [4]) (by kernel_rfl) (by simp) ?_
          refine hcons rfl rfl (fun K hK => ?_) ?_
          · clear hHeld
            refine owp_bslice1 (vs := c.cells) hS rfl rfl Hcl.out (by decide) ?_
            clear hS; intro ge _ hS; try simp only [List.cons_append, List.nil_append, List.append_nil, List.set_cons_zero, List.set_cons_succ] at hS
            refine hK.out _ _ ((hS.get 4 rfl).range 0 36 (by rw [List.drop_zero, List.take_of_length_le (Nat.le_of_eq Hcl.out)])) (fun hHeld => ?_)
            clear hK K
            simp only [Act.put, List.setIfInBounds_toArray, List.set_cons_succ, List.set_cons_zero]
            refine wpAnyH_ready (rs := [5]) (by kernel_rfl) (by simp) ?_
            refine hcons rfl rfl (fun K hK => ?_) ?_
            · clear hHeld
              refine owp_append hS 3 rfl rfl rfl hrow rfl ((RowV.lit 91 36 ge 1 c.cells (by rw [Hcl.out]) (by decide)).read (hS.get 5 rfl)) (Cond.one _) h63 hby ?_
              clear hS hrow
              intro v7 x7 _ hrow hS _
              obtain ⟨a7, c7, rfl⟩ := hrow.isSl
              try simp only [List.cons_append, List.nil_append, List.append_nil, List.set_cons_zero, List.set_cons_succ] at hS
              refine hK.out _ _ ((hS.get 4 rfl).range 0 36 (by rw [List.drop_zero, List.take_of_length_le (Nat.le_of_eq Hcl.out)])) (fun hHeld => ?_)
              clear hK K
              simp only [Act.put, List.setIfInBounds_toArray, List.set_cons_succ, List.set_cons_zero]
              refine htake (i := 6) (v := (.pointer (some ⟨go, 6, none⟩))) rfl (by kernel_rfl) (by kernel_rfl) (by kernel_rfl) (fun _ _ _ h => h) (Or.inl ⟨by rfl, by (intro w hSw; (try dsimp only at hSw); (try obtain hSw := hSw); go_simp; try with_reducible rfl)⟩) (by assumption) ?_; simp only [Act.put, List.setIfInBounds_toArray, List.set_cons_succ, List.set_cons_zero]
              refine wpAnyH_ready (rs := [7]) (by kernel_rfl) (by simp) ?_
              refine hcons rfl rfl (fun K hK => ?_) ?_
              · clear hHeld
                refine owp_store1 hS 2 rfl rfl rfl rfl rfl (show 6 < 7 by omega) (State.set6 _ _ _ _ _ _ _ _ _ []) ?_
                clear hS; intro _ hS; try simp only [List.cons_append, List.nil_append, List.append_nil, List.set_cons_zero, List.set_cons_succ] at hS
                refine hK.out _ _ ((hS.get 4 rfl).range 0 36 (by rw [List.drop_zero, List.take_of_length_le (Nat.le_of_eq Hcl.out)])) (fun hHeld => ?_)
                clear hK K
                simp only [Act.put, List.setIfInBounds_toArray, List.set_cons_succ, List.set_cons_zero]
                refine wpAnyH_done (by kernel_rfl) ?_ _
                clear hHeld
                go_wp2_with fail
                go_roundw
                case rel =>
                  refine ⟨k + 1, _, x7, by omega, by go_num, ?_, hS.pick [0, 1, 2, 3] rfl (by decide)⟩
                  rw [Hstep.out]
                  exact hrow
                case measure => simp [intOf]; omega
              exact AllReadyH.nil
            exact AllReadyH.nil
          exact AllReadyH.nil
        refine hcons rfl rfl (fun K hK => ?_) ?_
        · clear hHeld
          refine owp_bslice1 (vs := c.cells) hS rfl rfl Hcl.out (by decide) ?_
          clear hS; intro ge _ hS; try simp only [List.cons_append, List.nil_append, List.append_nil, List.set_cons_zero, List.set_cons_succ] at hS
          refine hK.out _ _ ((hS.get 4 rfl).range 0 36 (by rw [List.drop_zero, List.take_of_length_le (Nat.le_of_eq Hcl.out)])) (fun hHeld => ?_)
          clear hK K
          simp only [Act.put, List.setIfInBounds_toArray, List.set_cons_succ, List.set_cons_zero]
          refine wpAnyH_ready (rs := [1]) (by kernel_rfl) (by simp) ?_
          refine hcons rfl rfl (fun K hK => ?_) ?_
          · clear hHeld
            refine owp_load1 hS 2 rfl rfl rfl (show (State.cells ⟨ch, r, m0, m1, t0, t1, []⟩ (.slice a5 k c5))[6]? = some (.slice a5 k c5) from rfl) ?_
            refine hK.out _ _ ((hS.get 4 rfl).range 0 36 (by rw [List.drop_zero, List.take_of_length_le (Nat.le_of_eq Hcl.out)])) (fun hHeld => ?_)
            clear hK K
            simp only [Act.put, List.setIfInBounds_toArray, List.set_cons_succ, List.set_cons_zero]
            refine wpAnyH_ready (rs := [5]) (by kernel_rfl) (by simp) ?_
            refine hcons rfl rfl (fun K hK => ?_) ?_
            · clear hHeld
              refine owp_append hS 3 rfl rfl rfl hrow rfl ((RowV.lit 91 36 ge 1 c.cells (by rw [Hcl.out]) (by decide)).read (hS.get 5 rfl)) (Cond.one _) h63 hby ?_
              clear hS hrow
              intro v7 x7 _ hrow hS _
              obtain ⟨a7, c7, rfl⟩ := hrow.isSl
              try simp only [List.cons_append, List.nil_append, List.append_nil, List.set_cons_zero, List.set_cons_succ] at hS
              refine hK.out _ _ ((hS.get 4 rfl).range 0 36 (by rw [List.drop_zero, List.take_of_length_le (Nat.le_of_eq Hcl.out)])) (fun hHeld => ?_)
              clear hK K
              simp only [Act.put, List.setIfInBounds_toArray, List.set_cons_succ, List.set_cons_zero]
              refine htake (i := 6) (v := (.pointer (some ⟨go, 6, none⟩))) rfl (by kernel_rfl) (by kernel_rfl) (by kernel_rfl) (fun _ _ _ h => h) (Or.inl ⟨by rfl, by (intro w hSw; (try dsimp only at hSw); (try obtain hSw := hSw); go_simp; try with_reducible rfl)⟩) (by assumption) ?_; simp only [Act.put, List.setIfInBounds_toArray, List.set_cons_succ, List.set_cons_zero]
              refine wpAnyH_ready (rs := [7]) (by kernel_rfl) (by simp) ?_
              refine hcons rfl rfl (fun K hK => ?_) ?_
              · clear hHeld
                refine owp_store1 hS 2 rfl rfl rfl rfl rfl (show 6 < 7 by omega) (State.set6 _ _ _ _ _ _ _ _ _ []) ?_
                clear hS; intro _ hS; try simp only [List.cons_append, List.nil_append, List.append_nil, List.set_cons_zero, List.set_cons_succ] at hS
                refine hK.out _ _ ((hS.get 4 rfl).range 0 36 (by rw [List.drop_zero, List.take_of_length_le (Nat.le_of_eq Hcl.out)])) (fun hHeld => ?_)
                clear hK K
                simp only [Act.put, List.setIfInBounds_toArray, List.set_cons_succ, List.set_cons_zero]
                refine wpAnyH_done (by kernel_rfl) ?_ _
                clear hHeld
                go_wp2_with fail
                go_roundw
                case rel =>
                  refine ⟨k + 1, _, x7, by omega, by go_num, ?_, hS.pick [0, 1, 2, 3] rfl (by decide)⟩
                  rw [Hstep.out]
                  exact hrow
                case measure => simp [intOf]; omega
              exact AllReadyH.nil
            exact AllReadyH.nil
          exact AllReadyH.nil
        exact AllReadyH.nil
      exact AllReadyH.nil
    · have hkn : k = conds.length := by omega
      subst hkn
      rw [List.take_length] at hrow
      go_wp2_with (first | ((with_reducible show wpList _ _ _ (Oper.mk _ (Op.load _ _) _ _ _ _ :: _) _ _); refine wpl rfl ?_; refine (owp_loadW hS 2 rfl rfl rfl (by rfl) ?_)) | ((with_reducible show wpList _ _ _ (Oper.mk _ (Op.store _ _ _) _ _ _ _ :: _) _ _); refine wpl rfl ?_; refine (owp_storeW hS 1 rfl rfl rfl rfl (by rfl) (by rfl) (State.one _ _ rfl) ?_); clear hS; intro _ hS; try simp only [List.cons_append, List.nil_append, List.append_nil, List.set_cons_zero, List.set_cons_succ] at hS))
      (try simp only [Exit.inBlock, Exit.then]); refine bodyPost_ret (res_cell rfl rfl hS 1 rfl (by rfl)) rfl ?_
      exact ⟨_, x, rfl, hS.pick [3] rfl (by decide), hrow⟩

end Go.Proofs.Ytldmkafobbemjaa
