/-
  The document's memo turned into the program's.
-/
import Derived.Test.YtldmkafobbemjaaB2
namespace Go.Proofs.Ytldmkafobbemjaa
set_option linter.unusedSimpArgs false
set_option linter.unusedVariables false
open Go Go.RowKit
set_option maxRecDepth 100000
set_option maxHeartbeats 2000000

theorem build_condP (c : Cond) (h : c.hash.length = 32) (w : World) : (Instr.build 86 [(0, .int .u64 c.id), (1, .int .i64 c.side), (2, .int .u64 c.amount), (3, .agg (bs c.hash).toArray), (4, .int .u64 c.expiry)].toArray).run Try.prog w = .ok (.agg c.cells.toArray) w :=
  run_build Try.underlying86 (fun w => by kernel_rfl) (fill_cond c h) w
theorem build_opP (o : Oop) (h : o.cond.hash.length = 32) (w : World) : (Instr.build 88 [(0, .int .i64 o.kind), (1, .int .u64 o.amount), (2, .agg o.cond.cells.toArray), (3, .int .u64 o.id)].toArray).run Try.prog w = .ok (.agg o.cells.toArray) w :=
  run_build Try.underlying88 (fun w => by kernel_rfl) (fill_op o h) w
theorem build_sigP (l : LSig) (key : Nat) (h : l.cells.length = 1024) (w : World) : (Instr.build 39 [(0, .agg l.cells.toArray), (1, .int .u32 key)].toArray).run Try.prog w = .ok (.agg (Sig.cells ⟨l, key, []⟩ (.slice none 0 0)).toArray) w :=
  run_build Try.underlying39 (fun w => by kernel_rfl) (fill_sig l key h) w
theorem condTo_ok (c : Cond) (h : c.hash.length = 32) (w : World) : Calls Try.prog 47 #[.agg c.cells.toArray] w (ValPost w c.cells) := by
  have hS := St.nil w
  have Hlen := Lib.hid (Cond.len c h)
  have Hh := Lib.hid (show (c.cells.drop 3).take 32 = bs c.hash by simp [Cond.cells, List.take_append, bs_length, h])
  have H4 := Lib.hid (show c.cells[35]? = some (.int .u64 c.expiry) by simp [Cond.cells, List.getElem?_append, bs_length, h])
  have H0 := Lib.hid (show c.cells[0]? = some (.int .u64 c.id) from rfl)
  have H1 := Lib.hid (show c.cells[1]? = some (.int .i64 c.side) from rfl)
  have H2 := Lib.hid (show c.cells[2]? = some (.int .u64 c.amount) from rfl)
  have Hhash := Lib.hid (show (bs c.hash).length = 32 by rw [bs_length, h])
  have Hb := Lib.hid (build_condP c h)
  have Hone := Lib.hid (Cond.one c)
  clear h
  generalize c.cells = cs at *
  go_enter Try.func47, Try.ntmps47
  go_wp2_with (first
    | ((with_reducible show wpList _ _ _ (Oper.mk _ (Op.box _ _) _ _ _ _ :: _) _ _); refine wpl rfl ?_; refine owp_box hS rfl (vs := cs) rfl ?_; clear hS; intro gb _ hS; try simp only [List.cons_append, List.nil_append, List.append_nil, List.set_cons_zero, List.set_cons_succ] at hS)
    | ((with_reducible show wpList _ _ _ (Oper.mk (some 2) (Op.alloc _) _ _ _ _ :: _) _ _); refine wpl rfl ?_; refine (owp_allocAt hS 2 rfl rfl ?_); clear hS; intro gr _ hS; simp only [List.cons_append, List.nil_append] at hS)
    | ((with_reducible show wpList _ _ _ (Oper.mk _ (Op.load _ _) _ _ _ _ :: _) _ _); refine wpl rfl ?_; first
        | refine owp_load1 hS 0 rfl rfl rfl H0.out ?_
        | refine owp_load1 hS 0 rfl rfl rfl H1.out ?_
        | refine owp_load1 hS 0 rfl rfl rfl H2.out ?_
        | refine owp_load1 hS 0 rfl rfl rfl H4.out ?_
        | refine owp_load hS 0 rfl rfl rfl Hh.out Hhash.out ?_)
    | ((with_reducible show wpList _ _ _ (Oper.mk _ (Op.build _ _) _ _ _ _ :: _) _ _); refine wpl rfl ?_; refine owp_build rfl [(0, .int .u64 c.id), (1, .int .i64 c.side), (2, .int .u64 c.amount), (3, .agg (bs c.hash).toArray), (4, .int .u64 c.expiry)] rfl (Hb.out _) ?_)
    | ((with_reducible show wpList _ _ _ (Oper.mk _ (Op.store _ _ _) _ _ _ _ :: _) _ _); refine wpl rfl ?_; refine (owp_storeW hS 1 rfl rfl rfl rfl (Hlen.out) (Cond.len _ (zb_length 32)) (Hone.out) ?_); clear hS; intro _ hS; try simp only [List.cons_append, List.nil_append, List.append_nil, List.set_cons_zero, List.set_cons_succ] at hS))
  (try simp only [Exit.inBlock, Exit.then]); refine bodyPost_ret (res_cell rfl rfl hS 1 rfl (Hlen.out)) rfl ?_
  exact ⟨rfl, hS.pick [] rfl (by decide)⟩

theorem opTo_ok (o : Oop) (h : o.cond.hash.length = 32) (w : World) : Calls Try.prog 24 #[.agg o.cells.toArray] w (ValPost w o.cells) := by
  have hS := St.nil w
  have hcl := Cond.len o.cond h
  have Hcl := Lib.hid hcl
  have Hlen := Lib.hid (Oop.len o h)
  have Hc := Lib.hid (show (o.cells.drop 2).take 36 = o.cond.cells by simp [Oop.cells, List.take_append, hcl])
  have H0 := Lib.hid (show o.cells[0]? = some (.int .i64 o.kind) from rfl)
  have H1 := Lib.hid (show o.cells[1]? = some (.int .u64 o.amount) from rfl)
  have H38 := Lib.hid (show o.cells[38]? = some (.int .u64 o.id) by simp [Oop.cells, List.getElem?_append, hcl])
  have Hb := Lib.hid (build_opP o h)
  have Hone := Lib.hid (Oop.one o)
  have Hcond := Lib.hid (condTo_ok o.cond h)
  clear h hcl
  generalize o.cells = cs at *
  go_enter Try.func24, Try.ntmps24
  go_upto_region 1 with (first
    | ((with_reducible show wpList _ _ _ (Oper.mk _ (Op.box _ _) _ _ _ _ :: _) _ _); refine wpl rfl ?_; refine owp_box hS rfl (vs := cs) rfl ?_; clear hS; intro gb _ hS; try simp only [List.cons_append, List.nil_append, List.append_nil, List.set_cons_zero, List.set_cons_succ] at hS)
    | ((with_reducible show wpList _ _ _ (Oper.mk (some 2) (Op.alloc _) _ _ _ _ :: _) _ _); refine wpl rfl ?_; refine (owp_allocAt hS 2 rfl rfl ?_); clear hS; intro gr _ hS; simp only [List.cons_append, List.nil_append] at hS))
  simp only [Act.put, List.setIfInBounds_toArray, List.set_cons_succ, List.set_cons_zero]
  replace hS := hS.drew
  refine wp_region_held_drew (S := (fun w' => (w'.cell? ⟨gb, 0, none⟩ = some (.int .i64 o.kind) ∧ w'.cell? ⟨gb, 1, none⟩ = some (.int .u64 o.amount) ∧ w'.cell? ⟨gb, 38, none⟩ = some (.int .u64 o.id)) ∧ CellsAt w' ⟨gb, 2, none⟩ o.cond.cells)) (by kernel_rfl) ⟨⟨(hS.get 0 rfl).cell 0 H0.out, (hS.get 0 rfl).cell 1 H1.out, (hS.get 0 rfl).cell 38 H38.out⟩, (hS.get 0 rfl).range 2 36 Hc.out⟩ (fun hHeld => ?_)
  refine htake (i := 0) (v := (.pointer (some ⟨gb, 0, none⟩))) rfl (by kernel_rfl) (by kernel_rfl) (by kernel_rfl) (fun _ _ _ h => h) (Or.inl ⟨by rfl, by (intro w hSw; (try dsimp only at hSw); (try obtain ⟨⟨h1, h2, h3⟩, _⟩ := hSw); go_simp; try with_reducible rfl)⟩) (by assumption) ?_; simp only [Act.put, List.setIfInBounds_toArray, List.set_cons_succ, List.set_cons_zero]
  refine htake (i := 1) (v := (.int .i64 o.kind)) rfl (by kernel_rfl) (by kernel_rfl) (by kernel_rfl) (fun _ _ _ h => h) (Or.inl ⟨by rfl, by (intro w hSw; (try dsimp only at hSw); (try obtain ⟨⟨h1, h2, h3⟩, _⟩ := hSw); go_simp; try with_reducible rfl)⟩) (by assumption) ?_; simp only [Act.put, List.setIfInBounds_toArray, List.set_cons_succ, List.set_cons_zero]
  refine htake (i := 2) (v := (.pointer (some ⟨gb, 1, none⟩))) rfl (by kernel_rfl) (by kernel_rfl) (by kernel_rfl) (fun _ _ _ h => h) (Or.inl ⟨by rfl, by (intro w hSw; (try dsimp only at hSw); (try obtain ⟨⟨h1, h2, h3⟩, _⟩ := hSw); go_simp; try with_reducible rfl)⟩) (by assumption) ?_; simp only [Act.put, List.setIfInBounds_toArray, List.set_cons_succ, List.set_cons_zero]
  refine htake (i := 3) (v := (.int .u64 o.amount)) rfl (by kernel_rfl) (by kernel_rfl) (by kernel_rfl) (fun _ _ _ h => h) (Or.inl ⟨by rfl, by (intro w hSw; (try dsimp only at hSw); (try obtain ⟨⟨h1, h2, h3⟩, _⟩ := hSw); go_simp; try with_reducible rfl)⟩) (by assumption) ?_; simp only [Act.put, List.setIfInBounds_toArray, List.set_cons_succ, List.set_cons_zero]
  refine htake (i := 4) (v := (.pointer (some ⟨gb, 2, none⟩))) rfl (by kernel_rfl) (by kernel_rfl) (by kernel_rfl) (fun _ _ _ h => h) (Or.inl ⟨by rfl, by (intro w hSw; (try dsimp only at hSw); (try obtain ⟨⟨h1, h2, h3⟩, _⟩ := hSw); go_simp; try with_reducible rfl)⟩) (by assumption) ?_; simp only [Act.put, List.setIfInBounds_toArray, List.set_cons_succ, List.set_cons_zero]
  refine htake (i := 5) (v := (.agg o.cond.cells.toArray)) rfl (by kernel_rfl) (by kernel_rfl) (by kernel_rfl) (fun _ _ _ h => h) (Or.inl ⟨by rfl, yl_loadR rfl rfl Hcl.out (fun _ h => h.2)⟩) (by assumption) ?_; simp only [Act.put, List.setIfInBounds_toArray, List.set_cons_succ, List.set_cons_zero]
  refine htake (i := 7) (v := (.pointer (some ⟨gb, 38, none⟩))) rfl (by kernel_rfl) (by kernel_rfl) (by kernel_rfl) (fun _ _ _ h => h) (Or.inl ⟨by rfl, by (intro w hSw; (try dsimp only at hSw); (try obtain ⟨⟨h1, h2, h3⟩, _⟩ := hSw); go_simp; try with_reducible rfl)⟩) (by assumption) ?_; simp only [Act.put, List.setIfInBounds_toArray, List.set_cons_succ, List.set_cons_zero]
  refine htake (i := 8) (v := (.int .u64 o.id)) rfl (by kernel_rfl) (by kernel_rfl) (by kernel_rfl) (fun _ _ _ h => h) (Or.inl ⟨by rfl, by (intro w hSw; (try dsimp only at hSw); (try obtain ⟨⟨h1, h2, h3⟩, _⟩ := hSw); go_simp; try with_reducible rfl)⟩) (by assumption) ?_; simp only [Act.put, List.setIfInBounds_toArray, List.set_cons_succ, List.set_cons_zero]
  refine wpAnyH_ready (rs := [6]) (by kernel_rfl) (by simp) ?_
  refine hcons rfl rfl (fun K hK => ?_) ?_
  · clear hHeld
    refine owp_call rfl (by kernel_rfl) (args := #[.agg o.cond.cells.toArray]) rfl (Hcond.out _) ?_
    rintro e w5 ⟨rfl, hc⟩
    replace hS := hS.call0 hc
    try simp only [List.cons_append, List.nil_append, List.append_nil, List.set_cons_zero, List.set_cons_succ] at hS
    clear hc
    refine ⟨_, rfl, ?_⟩
    refine hK.out _ _ ⟨⟨(hS.get 0 rfl).cell 0 H0.out, (hS.get 0 rfl).cell 1 H1.out, (hS.get 0 rfl).cell 38 H38.out⟩, (hS.get 0 rfl).range 2 36 Hc.out⟩ (fun hHeld => ?_)
    clear hK K
    simp only [Act.put, List.setIfInBounds_toArray, List.set_cons_succ, List.set_cons_zero]
    refine htake (i := 9) (v := (.agg cs.toArray)) rfl (by kernel_rfl) (by kernel_rfl) (by kernel_rfl) (fun _ _ _ h => h) (Or.inl ⟨by rfl, yl_build rfl [(0, .int .i64 o.kind), (1, .int .u64 o.amount), (2, .agg o.cond.cells.toArray), (3, .int .u64 o.id)] rfl Hb.out⟩) (by assumption) ?_; simp only [Act.put, List.setIfInBounds_toArray, List.set_cons_succ, List.set_cons_zero]
    refine wpAnyH_ready (rs := [10]) (by kernel_rfl) (by simp) ?_
    refine hcons rfl rfl (fun K hK => ?_) ?_
    · clear hHeld
      refine owp_storeW hS 1 rfl rfl rfl rfl Hlen.out (Oop.len Oop.zero (zb_length 32)) Hone.out ?_
      clear hS; intro _ hS; try simp only [List.cons_append, List.nil_append, List.append_nil, List.set_cons_zero, List.set_cons_succ] at hS
      refine hK.out _ _ ⟨⟨(hS.get 0 rfl).cell 0 H0.out, (hS.get 0 rfl).cell 1 H1.out, (hS.get 0 rfl).cell 38 H38.out⟩, (hS.get 0 rfl).range 2 36 Hc.out⟩ (fun hHeld => ?_)
      clear hK K
      simp only [Act.put, List.setIfInBounds_toArray, List.set_cons_succ, List.set_cons_zero]
      refine wpAnyH_done (by kernel_rfl) ?_ _
      clear hHeld
      go_wp2_with fail
      (try simp only [Exit.inBlock, Exit.then]); refine bodyPost_ret (res_cell rfl rfl hS 1 rfl (Hlen.out)) rfl ?_
      exact ⟨rfl, hS.pick [] rfl (by decide)⟩
    exact AllReadyH.nil
  exact AllReadyH.nil

theorem lampTo_ok (s : LSig) (h1 : s.shown.length = 512) (h2 : s.other.length = 512) (w : World) : Calls Try.prog 72 #[.agg s.cells.toArray] w (ValPost w s.cells) := by
  have hS := St.nil w
  obtain ⟨x, y⟩ := s
  simp only at h1 h2
  have Hs := Lib.hid (fun (n : Nat) (hn : n + 16 ≤ 512) => show ((LSig.cells ⟨x, y⟩).drop n).take 16 = bs ((x.drop n).take 16) by
    show ((bs x ++ bs y).drop n).take 16 = _
    rw [List.drop_append_of_le_length (by rw [bs_length]; omega), List.take_append_of_le_length (by rw [List.length_drop, bs_length]; omega), bs_drop, bs_take])
  have Ho := Lib.hid (fun (n : Nat) (hn : n + 16 ≤ 512) => show ((LSig.cells ⟨x, y⟩).drop (512 + n)).take 16 = bs ((y.drop n).take 16) by
    show ((bs x ++ bs y).drop (512 + n)).take 16 = _
    have e1 : (bs x).drop (512 + n) = [] := List.drop_eq_nil_of_le (by rw [bs_length]; omega)
    rw [List.drop_append, e1, List.nil_append, bs_length, h1, show 512 + n - 512 = n by omega, bs_drop, bs_take])
  have Hfin := Lib.hid (show lampPart x y 512 512 = LSig.cells ⟨x, y⟩ by
    have e1 := partly_full x
    have e2 := partly_full y
    rw [h1] at e1
    rw [h2] at e2
    rw [lampPart, e1, e2]; rfl)
  have Hz := Lib.hid (show LSig.zero.cells = lampPart x y 0 0 by
    rw [lampPart, partly_zero, partly_zero, h1, h2]; rfl)
  generalize hcs : LSig.cells ⟨x, y⟩ = cs at *
  go_enter Try.func72, Try.ntmps72
  go_wp2_with (first
    | ((with_reducible show wpList _ _ _ (Oper.mk _ (Op.box _ _) _ _ _ _ :: _) _ _); refine wpl rfl ?_; refine owp_box hS rfl (vs := cs) rfl ?_; clear hS; intro gs _ hS; try simp only [List.cons_append, List.nil_append, List.append_nil, List.set_cons_zero, List.set_cons_succ] at hS)
    | ((with_reducible show wpList _ _ _ (Oper.mk (some 2) (Op.alloc _) _ _ _ _ :: _) _ _); refine wpl rfl ?_; refine (owp_allocAt hS 2 rfl rfl ?_); clear hS; intro gr _ hS; simp only [List.cons_append, List.nil_append] at hS)
    | ((with_reducible show wpList _ _ _ (Oper.mk (some 3) (Op.alloc _) _ _ _ _ :: _) _ _); refine wpl rfl ?_; refine (owp_allocAt hS 3 rfl rfl ?_); clear hS; intro go _ hS; simp only [List.cons_append, List.nil_append] at hS))
  rw [show some (go, LSig.zero.cells, 36) = some (go, lampPart x y 0 0, 36) by rw [Hz.out]] at hS
  go_loopw [4, 5] (fun _ i wr => ∃ j : Nat, j ≤ 32 ∧ i = .int .i64 j ∧ St w [] wr [some (gs, cs, 63), some (gr, LSig.zero.cells, 36), some (go, lampPart x y (j * 16) (j * 16), 36)]) (fun _ i _ => 32 - (intOf i).toNat)
  case atStart => exact ⟨0, by omega, rfl, hS⟩
  case round =>
    clear hS
    obtain ⟨j, hj, rfl, hS⟩ := hrel
    by_cases hlt : j < 32
    · have Hp := Lib.hid (Hs.out (j * 16) (by omega))
      have Hq := Lib.hid (Ho.out (j * 16) (by omega))
      have Hl1 := Lib.hid (show (bs ((x.drop (j * 16)).take 16)).length = 16 by rw [bs_length, List.length_take, List.length_drop]; omega)
      have Hl2 := Lib.hid (show (bs ((y.drop (j * 16)).take 16)).length = 16 by rw [bs_length, List.length_take, List.length_drop]; omega)
      have Hc1 := Lib.hid (lampPart_set1 (x := x) (y := y) (n := j * 16) (m := j * 16) (k := 16) h1 (by omega))
      have Hc2 := Lib.hid (lampPart_set2 (x := x) (y := y) (n := j * 16 + 16) (m := j * 16) (k := 16) h1 h2 (by omega) (by omega))
      have Hle1 := Lib.hid (lampPart_len (n := j * 16) (m := j * 16) h1 h2 (by omega) (by omega))
      have Hle2 := Lib.hid (lampPart_len (n := j * 16 + 16) (m := j * 16) h1 h2 (by omega) (by omega))
      have hj0 : (0 : Int) ≤ j := by omega
      have hj1 : (j : Int) < 32 := by omega
      go_wp2_with fail
      replace hS := hS.drew
      refine wp_region_held_drew (S := (fun w' => CellsAt w' ⟨gs, j * 16, none⟩ (bs ((x.drop (j * 16)).take 16)) ∧ CellsAt w' ⟨gs, 512 + j * 16, none⟩ (bs ((y.drop (j * 16)).take 16)))) (by kernel_rfl) ⟨(hS.get 0 rfl).range _ _ Hp.out, (hS.get 0 rfl).range _ _ Hq.out⟩ (fun hHeld => ?_)
      refine htake (i := 0) (v := (.int .i64 j)) rfl (by kernel_rfl) (by kernel_rfl) (by kernel_rfl) (fun _ _ _ h => h) (Or.inl ⟨by rfl, by (intro w hSw; (try dsimp only at hSw); (try obtain hSw := hSw); go_simp; try with_reducible rfl)⟩) (by assumption) ?_; simp only [Act.put, List.setIfInBounds_toArray, List.set_cons_succ, List.set_cons_zero]
      refine htake (i := 1) (v := (.int .i64 j)) rfl (by kernel_rfl) (by kernel_rfl) (by kernel_rfl) (fun _ _ _ h => h) (Or.inl ⟨by rfl, by (intro w hSw; (try dsimp only at hSw); (try obtain hSw := hSw); go_simp; try with_reducible rfl)⟩) (by assumption) ?_; simp only [Act.put, List.setIfInBounds_toArray, List.set_cons_succ, List.set_cons_zero]
      refine htake (i := 2) (v := (.int .i64 j)) rfl (by kernel_rfl) (by kernel_rfl) (by kernel_rfl) (fun _ _ _ h => h) (Or.inl ⟨by rfl, by (intro w hSw; (try dsimp only at hSw); (try obtain hSw := hSw); go_simp; try with_reducible rfl)⟩) (by assumption) ?_; simp only [Act.put, List.setIfInBounds_toArray, List.set_cons_succ, List.set_cons_zero]
      refine htake (i := 3) (v := (.pointer (some ⟨gs, 0, none⟩))) rfl (by kernel_rfl) (by kernel_rfl) (by kernel_rfl) (fun _ _ _ h => h) (Or.inl ⟨by rfl, by (intro w hSw; (try dsimp only at hSw); (try obtain hSw := hSw); go_simp; try with_reducible rfl)⟩) (by assumption) ?_; simp only [Act.put, List.setIfInBounds_toArray, List.set_cons_succ, List.set_cons_zero]
      refine htake (i := 4) (v := (.pointer (some ⟨gs, j * 16, none⟩))) rfl (by kernel_rfl) (by kernel_rfl) (by kernel_rfl) (fun _ _ _ h => h) (Or.inl ⟨by rfl, by (intro w hSw; (try dsimp only at hSw); (try obtain hSw := hSw); go_simp; try with_reducible rfl)⟩) (by assumption) ?_; simp only [Act.put, List.setIfInBounds_toArray, List.set_cons_succ, List.set_cons_zero]
      refine htake (i := 5) (v := (.agg (bs ((x.drop (j * 16)).take 16)).toArray)) rfl (by kernel_rfl) (by kernel_rfl) (by kernel_rfl) (fun _ _ _ h => h) (Or.inl ⟨by rfl, yl_loadR rfl rfl Hl1.out (fun _ h => h.1)⟩) (by assumption) ?_; simp only [Act.put, List.setIfInBounds_toArray, List.set_cons_succ, List.set_cons_zero]
      refine htake (i := 6) (v := (.int .i64 j)) rfl (by kernel_rfl) (by kernel_rfl) (by kernel_rfl) (fun _ _ _ h => h) (Or.inl ⟨by rfl, by (intro w hSw; (try dsimp only at hSw); (try obtain hSw := hSw); go_simp; try with_reducible rfl)⟩) (by assumption) ?_; simp only [Act.put, List.setIfInBounds_toArray, List.set_cons_succ, List.set_cons_zero]
      refine htake (i := 7) (v := (.pointer (some ⟨gs, 512, none⟩))) rfl (by kernel_rfl) (by kernel_rfl) (by kernel_rfl) (fun _ _ _ h => h) (Or.inl ⟨by rfl, by (intro w hSw; (try dsimp only at hSw); (try obtain hSw := hSw); go_simp; try with_reducible rfl)⟩) (by assumption) ?_; simp only [Act.put, List.setIfInBounds_toArray, List.set_cons_succ, List.set_cons_zero]
      refine htake (i := 8) (v := (.pointer (some ⟨gs, 512 + j * 16, none⟩))) rfl (by kernel_rfl) (by kernel_rfl) (by kernel_rfl) (fun _ _ _ h => h) (Or.inl ⟨by rfl, by (intro w hSw; (try dsimp only at hSw); (try obtain hSw := hSw); go_simp; try with_reducible rfl)⟩) (by assumption) ?_; simp only [Act.put, List.setIfInBounds_toArray, List.set_cons_succ, List.set_cons_zero]
      refine htake (i := 9) (v := (.agg (bs ((y.drop (j * 16)).take 16)).toArray)) rfl (by kernel_rfl) (by kernel_rfl) (by kernel_rfl) (fun _ _ _ h => h) (Or.inl ⟨by rfl, yl_loadR rfl rfl Hl2.out (fun _ h => h.2)⟩) (by assumption) ?_; simp only [Act.put, List.setIfInBounds_toArray, List.set_cons_succ, List.set_cons_zero]
      refine htake (i := 10) (v := (.pointer (some ⟨go, 0, none⟩))) rfl (by kernel_rfl) (by kernel_rfl) (by kernel_rfl) (fun _ _ _ h => h) (Or.inl ⟨by rfl, by (intro w hSw; (try dsimp only at hSw); (try obtain hSw := hSw); go_simp; try with_reducible rfl)⟩) (by assumption) ?_; simp only [Act.put, List.setIfInBounds_toArray, List.set_cons_succ, List.set_cons_zero]
      refine htake (i := 11) (v := (.pointer (some ⟨go, j * 16, none⟩))) rfl (by kernel_rfl) (by kernel_rfl) (by kernel_rfl) (fun _ _ _ h => h) (Or.inl ⟨by rfl, by (intro w hSw; (try dsimp only at hSw); (try obtain hSw := hSw); go_simp; try with_reducible rfl)⟩) (by assumption) ?_; simp only [Act.put, List.setIfInBounds_toArray, List.set_cons_succ, List.set_cons_zero]
      refine htake (i := 13) (v := (.pointer (some ⟨go, 512, none⟩))) rfl (by kernel_rfl) (by kernel_rfl) (by kernel_rfl) (fun _ _ _ h => h) (Or.inl ⟨by rfl, by (intro w hSw; (try dsimp only at hSw); (try obtain hSw := hSw); go_simp; try with_reducible rfl)⟩) (by assumption) ?_; simp only [Act.put, List.setIfInBounds_toArray, List.set_cons_succ, List.set_cons_zero]
      refine wpAnyH_ready (rs := [12]) (by kernel_rfl) (by simp) ?_
      refine hcons rfl rfl (fun K hK => ?_) ?_
      · clear hHeld
        refine owp_store hS 2 rfl rfl rfl rfl Hl1.out (by rw [Hle1.out]; omega) (bs_one _) Hc1.out ?_
        clear hS; intro _ hS; try simp only [List.cons_append, List.nil_append, List.append_nil, List.set_cons_zero, List.set_cons_succ] at hS
        refine hK.out _ _ ⟨(hS.get 0 rfl).range _ _ Hp.out, (hS.get 0 rfl).range _ _ Hq.out⟩ (fun hHeld => ?_)
        clear hK K
        simp only [Act.put, List.setIfInBounds_toArray, List.set_cons_succ, List.set_cons_zero]
        refine htake (i := 14) (v := (.pointer (some ⟨go, 512 + j * 16, none⟩))) rfl (by kernel_rfl) (by kernel_rfl) (by kernel_rfl) (fun _ _ _ h => h) (Or.inl ⟨by rfl, by (intro w hSw; (try dsimp only at hSw); (try obtain hSw := hSw); go_simp; try with_reducible rfl)⟩) (by assumption) ?_; simp only [Act.put, List.setIfInBounds_toArray, List.set_cons_succ, List.set_cons_zero]
        refine wpAnyH_ready (rs := [15]) (by kernel_rfl) (by simp) ?_
        refine hcons rfl rfl (fun K hK => ?_) ?_
        · clear hHeld
          refine owp_store hS 2 rfl rfl rfl rfl Hl2.out (by rw [Hle2.out]; omega) (bs_one _) Hc2.out ?_
          clear hS; intro _ hS; try simp only [List.cons_append, List.nil_append, List.append_nil, List.set_cons_zero, List.set_cons_succ] at hS
          refine hK.out _ _ ⟨(hS.get 0 rfl).range _ _ Hp.out, (hS.get 0 rfl).range _ _ Hq.out⟩ (fun hHeld => ?_)
          clear hK K
          simp only [Act.put, List.setIfInBounds_toArray, List.set_cons_succ, List.set_cons_zero]
          refine wpAnyH_done (by kernel_rfl) ?_ _
          clear hHeld
          go_wp2_with fail
          go_roundw
          case rel =>
            refine ⟨j + 1, by omega, by go_num, ?_⟩
            rw [Nat.add_mul]
            exact hS
          case measure => simp [intOf]; omega
        exact AllReadyH.nil
      exact AllReadyH.nil
    · have hjk : j = 32 := by omega
      subst hjk
      rw [show lampPart x y (32 * 16) (32 * 16) = cs from Hfin.out] at hS
      have Hlen := Lib.hid (show cs.length = 1024 by rw [← Hfin.out]; exact lampPart_len h1 h2 (by omega) (by omega))
      have Hone := Lib.hid (show ∀ v, v ∈ cs → v.oneCell' = true by rw [← Hfin.out]; exact lampPart_one _ _ _ _)
      go_wp2_with (first | ((with_reducible show wpList _ _ _ (Oper.mk _ (Op.load _ _) _ _ _ _ :: _) _ _); refine wpl rfl ?_; refine (owp_loadW hS 2 rfl rfl rfl (Hlen.out) ?_)) | ((with_reducible show wpList _ _ _ (Oper.mk _ (Op.store _ _ _) _ _ _ _ :: _) _ _); refine wpl rfl ?_; refine (owp_storeW hS 1 rfl rfl rfl rfl (Hlen.out) (lzero_len) (Hone.out) ?_); clear hS; intro _ hS; try simp only [List.cons_append, List.nil_append, List.append_nil, List.set_cons_zero, List.set_cons_succ] at hS))
      (try simp only [Exit.inBlock, Exit.then]); refine bodyPost_ret (res_cell rfl rfl hS 1 rfl (Hlen.out)) rfl ?_
      exact ⟨rfl, hS.pick [] rfl (by decide)⟩

end Go.Proofs.Ytldmkafobbemjaa
