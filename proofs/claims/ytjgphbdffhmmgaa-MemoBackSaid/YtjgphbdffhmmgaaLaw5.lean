/-
  A memo turned into the document's.
-/
import Derived.Test.YtjgphbdffhmmgaaLaw4
namespace Go.Proofs.Ytjgphbdffhmmgaa
set_option linter.unusedSimpArgs false
set_option linter.unusedVariables false
open Go Go.RowKit
set_option maxRecDepth 100000
set_option maxHeartbeats 2000000

structure Memo.Full (m : Memo) : Prop where
  fit : m.Fit
  sig : m.sig.Fit

theorem Memo.gc {m : Memo} (h : m.Fit) (tv wv : Value) : ((m.cells tv wv).drop 5).take 36 = m.op.cond.cells := by
  have hc := Cond.len m.op.cond h.hash
  simp [Memo.cells, Oop.cells, hc, List.take_append]
theorem Memo.g4 (m : Memo) (tv wv : Value) : (m.cells tv wv)[4]? = some (.int .u64 m.op.amount) := rfl
theorem Memo.g41 {m : Memo} (h : m.Fit) (tv wv : Value) : (m.cells tv wv)[41]? = some (.int .u64 m.op.id) := by
  simp [Memo.cells, Oop.cells, List.getElem?_append, Cond.len _ h.hash]
theorem Memo.gs {m : Memo} (h : m.Fit) (tv wv : Value) : ((m.cells tv wv).drop 43).take 1026 = m.sig.cells wv := by
  have e1 : m.cells tv wv = ([Value.int .i64 m.kind, Value.int .u32 m.channel, Value.int .u64 m.round] ++ m.op.cells ++ [tv]) ++ m.sig.cells wv := by simp [Memo.cells]
  rw [e1, List.drop_left' (by simp [h.op]), List.take_of_length_le (Nat.le_of_eq (Sig.len _ _ h.l))]
theorem hopCells_take_succ (l : List Hop) (k : Nat) (h : k < l.length) : hopCells (l.take (k + 1)) = hopCells (l.take k) ++ l[k].cells := by
  rw [List.take_succ_eq_append_getElem h, hopCells_snoc]

def MemoFromPost (T H : TypeId) (w : World) (m : Memo) (e : Ending) (w' : World) : Prop :=
  ∃ tv wv x y, e = .returned (.agg (m.cells tv wv).toArray) ∧ St w [] w' [x, y] ∧ RowV H 3 tv m.trail.length (hopCells m.trail) x ∧ RowV T 32 wv m.sig.way.length (wayCells m.sig.way) y

theorem memoFrom_ok (m : Memo) (hf : m.Full) (tv wv : Value) (w : World) (ht : RowR w 3 tv m.trail.length (hopCells m.trail)) (hv : RowR w 32 wv m.sig.way.length (wayCells m.sig.way))
    (hl : m.trail.length ≤ 1000) (hl2 : m.sig.way.length ≤ 1000) :
    Calls Try.prog 12 #[.agg (m.cells tv wv).toArray] w (MemoFromPost 27 97 w m) := by
  have hS := St.nil w
  obtain ⟨a0, c0, rfl⟩ := ht.isSl
  obtain ⟨kind, channel, round, op, trail, sig⟩ := m
  simp only at ht hv hl hl2
  have hfit := hf.fit
  have Hv := Lib.hid hv
  have Ht := Lib.hid ht
  have Hol := Lib.hid (show op.cells.length = 39 from hfit.op)
  have Hcl := Lib.hid (show op.cond.cells.length = 36 from Cond.len _ hfit.hash)
  have Hsl := Lib.hid (show sig.l.cells.length = 1024 from hfit.l)
  have Hsig := Lib.hid (fun (w' : World) (h : RowR w' 32 wv sig.way.length (wayCells sig.way)) => sigFrom_ok sig hf.sig wv w' h hl2)
  have Hcond := Lib.hid (condFrom_ok op.cond hfit.hash)
  have Hop1 := Lib.hid (build_opR op hfit.hash)
  have Hg0 := Lib.hid (Memo.g0 ⟨kind, channel, round, op, trail, sig⟩ (.slice a0 trail.length c0) wv)
  have Hg1 := Lib.hid (Memo.g1 ⟨kind, channel, round, op, trail, sig⟩ (.slice a0 trail.length c0) wv)
  have Hg2 := Lib.hid (Memo.g2 ⟨kind, channel, round, op, trail, sig⟩ (.slice a0 trail.length c0) wv)
  have Hg3 := Lib.hid (Memo.g3 ⟨kind, channel, round, op, trail, sig⟩ (.slice a0 trail.length c0) wv)
  have Hg4 := Lib.hid (Memo.g4 ⟨kind, channel, round, op, trail, sig⟩ (.slice a0 trail.length c0) wv)
  have Hgc := Lib.hid (Memo.gc hfit (.slice a0 trail.length c0) wv)
  have Hg41 := Lib.hid (Memo.g41 hfit (.slice a0 trail.length c0) wv)
  have Hg42 := Lib.hid (Memo.g42 hfit (.slice a0 trail.length c0) wv)
  have Hgs := Lib.hid (Memo.gs hfit (.slice a0 trail.length c0) wv)
  have Hslen := Lib.hid (show (sig.cells wv).length = 1026 from Sig.len _ _ hfit.l)
  simp only at Hgc Hg41 Hg42 Hgs
  clear hv ht hf hfit
  generalize Memo.cells ⟨kind, channel, round, op, trail, sig⟩ (.slice a0 trail.length c0) wv = cs at *
  go_enter Try.func12, Try.ntmps12
  go_upto_region 1 with (first
    | ((with_reducible show wpList _ _ _ (Oper.mk _ (Op.box _ _) _ _ _ _ :: _) _ _); refine wpl rfl ?_; refine owp_box hS rfl (vs := cs) rfl ?_; clear hS; intro gs _ hS; try simp only [List.cons_append, List.nil_append, List.append_nil, List.set_cons_zero, List.set_cons_succ] at hS)
    | ((with_reducible show wpList _ _ _ (Oper.mk (some 2) (Op.alloc _) _ _ _ _ :: _) _ _); refine wpl rfl ?_; refine (owp_allocAt hS 2 rfl rfl ?_); clear hS; intro gr _ hS; simp only [List.cons_append, List.nil_append] at hS))
  simp only [Act.put, List.setIfInBounds_toArray, List.set_cons_succ, List.set_cons_zero]
  go_cut [3] (fun p wr => ∃ go wv' y, p = .pointer (some ⟨go, 0, none⟩) ∧ RowV 27 32 wv' sig.way.length (wayCells sig.way) y ∧
    St w [] wr [some (gs, cs, 43), some (gr, Memo.zero.cells (.slice none 0 0) (.slice none 0 0), 60), some (go, Memo.cells ⟨kind, channel, round, op, [], sig⟩ (.slice none 0 0) wv', 60), y])
  case first =>
    replace hS := hS.drew
    refine wp_region_held_drew (S := (fun w' => (w'.cell? ⟨gs, 0, none⟩ = some (.int .i64 kind) ∧ w'.cell? ⟨gs, 1, none⟩ = some (.int .u32 channel) ∧ w'.cell? ⟨gs, 2, none⟩ = some (.int .u64 round) ∧ w'.cell? ⟨gs, 3, none⟩ = some (.int .i64 op.kind) ∧ w'.cell? ⟨gs, 4, none⟩ = some (.int .u64 op.amount) ∧ w'.cell? ⟨gs, 41, none⟩ = some (.int .u64 op.id)) ∧ CellsAt w' ⟨gs, 5, none⟩ op.cond.cells ∧ CellsAt w' ⟨gs, 43, none⟩ (sig.cells wv))) (by kernel_rfl) ⟨⟨(hS.get 0 rfl).cell 0 Hg0.out, (hS.get 0 rfl).cell 1 Hg1.out, (hS.get 0 rfl).cell 2 Hg2.out, (hS.get 0 rfl).cell 3 Hg3.out, (hS.get 0 rfl).cell 4 Hg4.out, (hS.get 0 rfl).cell 41 Hg41.out⟩, (hS.get 0 rfl).range 5 36 Hgc.out, (hS.get 0 rfl).range 43 1026 Hgs.out⟩ (fun hHeld => ?_)
    refine htake (i := 0) (v := (.pointer (some ⟨gs, 0, none⟩))) rfl (by kernel_rfl) (by kernel_rfl) (by kernel_rfl) (fun _ _ _ h => h) (Or.inl ⟨by rfl, by (intro w hSw; (try dsimp only at hSw); (try obtain ⟨⟨h1, h2, h3, h4, h5, h6⟩, _, _⟩ := hSw); go_simp; try with_reducible rfl)⟩) (by assumption) ?_; simp only [Act.put, List.setIfInBounds_toArray, List.set_cons_succ, List.set_cons_zero]
    refine htake (i := 1) (v := (.int .i64 kind)) rfl (by kernel_rfl) (by kernel_rfl) (by kernel_rfl) (fun _ _ _ h => h) (Or.inl ⟨by rfl, by (intro w hSw; (try dsimp only at hSw); (try obtain ⟨⟨h1, h2, h3, h4, h5, h6⟩, _, _⟩ := hSw); go_simp; try with_reducible rfl)⟩) (by assumption) ?_; simp only [Act.put, List.setIfInBounds_toArray, List.set_cons_succ, List.set_cons_zero]
    refine htake (i := 2) (v := (.pointer (some ⟨gs, 1, none⟩))) rfl (by kernel_rfl) (by kernel_rfl) (by kernel_rfl) (fun _ _ _ h => h) (Or.inl ⟨by rfl, by (intro w hSw; (try dsimp only at hSw); (try obtain ⟨⟨h1, h2, h3, h4, h5, h6⟩, _, _⟩ := hSw); go_simp; try with_reducible rfl)⟩) (by assumption) ?_; simp only [Act.put, List.setIfInBounds_toArray, List.set_cons_succ, List.set_cons_zero]
    refine htake (i := 3) (v := (.int .u32 channel)) rfl (by kernel_rfl) (by kernel_rfl) (by kernel_rfl) (fun _ _ _ h => h) (Or.inl ⟨by rfl, by (intro w hSw; (try dsimp only at hSw); (try obtain ⟨⟨h1, h2, h3, h4, h5, h6⟩, _, _⟩ := hSw); go_simp; try with_reducible rfl)⟩) (by assumption) ?_; simp only [Act.put, List.setIfInBounds_toArray, List.set_cons_succ, List.set_cons_zero]
    refine htake (i := 4) (v := (.pointer (some ⟨gs, 2, none⟩))) rfl (by kernel_rfl) (by kernel_rfl) (by kernel_rfl) (fun _ _ _ h => h) (Or.inl ⟨by rfl, by (intro w hSw; (try dsimp only at hSw); (try obtain ⟨⟨h1, h2, h3, h4, h5, h6⟩, _, _⟩ := hSw); go_simp; try with_reducible rfl)⟩) (by assumption) ?_; simp only [Act.put, List.setIfInBounds_toArray, List.set_cons_succ, List.set_cons_zero]
    refine htake (i := 5) (v := (.int .u64 round)) rfl (by kernel_rfl) (by kernel_rfl) (by kernel_rfl) (fun _ _ _ h => h) (Or.inl ⟨by rfl, by (intro w hSw; (try dsimp only at hSw); (try obtain ⟨⟨h1, h2, h3, h4, h5, h6⟩, _, _⟩ := hSw); go_simp; try with_reducible rfl)⟩) (by assumption) ?_; simp only [Act.put, List.setIfInBounds_toArray, List.set_cons_succ, List.set_cons_zero]
    refine htake (i := 6) (v := (.pointer (some ⟨gs, 3, none⟩))) rfl (by kernel_rfl) (by kernel_rfl) (by kernel_rfl) (fun _ _ _ h => h) (Or.inl ⟨by rfl, by (intro w hSw; (try dsimp only at hSw); (try obtain ⟨⟨h1, h2, h3, h4, h5, h6⟩, _, _⟩ := hSw); go_simp; try with_reducible rfl)⟩) (by assumption) ?_; simp only [Act.put, List.setIfInBounds_toArray, List.set_cons_succ, List.set_cons_zero]
    refine htake (i := 7) (v := (.pointer (some ⟨gs, 3, none⟩))) rfl (by kernel_rfl) (by kernel_rfl) (by kernel_rfl) (fun _ _ _ h => h) (Or.inl ⟨by rfl, by (intro w hSw; (try dsimp only at hSw); (try obtain ⟨⟨h1, h2, h3, h4, h5, h6⟩, _, _⟩ := hSw); go_simp; try with_reducible rfl)⟩) (by assumption) ?_; simp only [Act.put, List.setIfInBounds_toArray, List.set_cons_succ, List.set_cons_zero]
    refine htake (i := 8) (v := (.int .i64 op.kind)) rfl (by kernel_rfl) (by kernel_rfl) (by kernel_rfl) (fun _ _ _ h => h) (Or.inl ⟨by rfl, by (intro w hSw; (try dsimp only at hSw); (try obtain ⟨⟨h1, h2, h3, h4, h5, h6⟩, _, _⟩ := hSw); go_simp; try with_reducible rfl)⟩) (by assumption) ?_; simp only [Act.put, List.setIfInBounds_toArray, List.set_cons_succ, List.set_cons_zero]
    refine htake (i := 9) (v := (.pointer (some ⟨gs, 3, none⟩))) rfl (by kernel_rfl) (by kernel_rfl) (by kernel_rfl) (fun _ _ _ h => h) (Or.inl ⟨by rfl, by (intro w hSw; (try dsimp only at hSw); (try obtain ⟨⟨h1, h2, h3, h4, h5, h6⟩, _, _⟩ := hSw); go_simp; try with_reducible rfl)⟩) (by assumption) ?_; simp only [Act.put, List.setIfInBounds_toArray, List.set_cons_succ, List.set_cons_zero]
    refine htake (i := 10) (v := (.pointer (some ⟨gs, 4, none⟩))) rfl (by kernel_rfl) (by kernel_rfl) (by kernel_rfl) (fun _ _ _ h => h) (Or.inl ⟨by rfl, by (intro w hSw; (try dsimp only at hSw); (try obtain ⟨⟨h1, h2, h3, h4, h5, h6⟩, _, _⟩ := hSw); go_simp; try with_reducible rfl)⟩) (by assumption) ?_; simp only [Act.put, List.setIfInBounds_toArray, List.set_cons_succ, List.set_cons_zero]
    refine htake (i := 11) (v := (.int .u64 op.amount)) rfl (by kernel_rfl) (by kernel_rfl) (by kernel_rfl) (fun _ _ _ h => h) (Or.inl ⟨by rfl, by (intro w hSw; (try dsimp only at hSw); (try obtain ⟨⟨h1, h2, h3, h4, h5, h6⟩, _, _⟩ := hSw); go_simp; try with_reducible rfl)⟩) (by assumption) ?_; simp only [Act.put, List.setIfInBounds_toArray, List.set_cons_succ, List.set_cons_zero]
    refine htake (i := 12) (v := (.pointer (some ⟨gs, 3, none⟩))) rfl (by kernel_rfl) (by kernel_rfl) (by kernel_rfl) (fun _ _ _ h => h) (Or.inl ⟨by rfl, by (intro w hSw; (try dsimp only at hSw); (try obtain ⟨⟨h1, h2, h3, h4, h5, h6⟩, _, _⟩ := hSw); go_simp; try with_reducible rfl)⟩) (by assumption) ?_; simp only [Act.put, List.setIfInBounds_toArray, List.set_cons_succ, List.set_cons_zero]
    refine htake (i := 13) (v := (.pointer (some ⟨gs, 5, none⟩))) rfl (by kernel_rfl) (by kernel_rfl) (by kernel_rfl) (fun _ _ _ h => h) (Or.inl ⟨by rfl, by (intro w hSw; (try dsimp only at hSw); (try obtain ⟨⟨h1, h2, h3, h4, h5, h6⟩, _, _⟩ := hSw); go_simp; try with_reducible rfl)⟩) (by assumption) ?_; simp only [Act.put, List.setIfInBounds_toArray, List.set_cons_succ, List.set_cons_zero]
    refine htake (i := 14) (v := (.agg op.cond.cells.toArray)) rfl (by kernel_rfl) (by kernel_rfl) (by kernel_rfl) (fun _ _ _ h => h) (Or.inl ⟨by rfl, yl_loadR rfl rfl Hcl.out (fun _ h => h.2.1)⟩) (by assumption) ?_; simp only [Act.put, List.setIfInBounds_toArray, List.set_cons_succ, List.set_cons_zero]
    refine htake (i := 16) (v := (.pointer (some ⟨gs, 3, none⟩))) rfl (by kernel_rfl) (by kernel_rfl) (by kernel_rfl) (fun _ _ _ h => h) (Or.inl ⟨by rfl, by (intro w hSw; (try dsimp only at hSw); (try obtain ⟨⟨h1, h2, h3, h4, h5, h6⟩, _, _⟩ := hSw); go_simp; try with_reducible rfl)⟩) (by assumption) ?_; simp only [Act.put, List.setIfInBounds_toArray, List.set_cons_succ, List.set_cons_zero]
    refine htake (i := 17) (v := (.pointer (some ⟨gs, 41, none⟩))) rfl (by kernel_rfl) (by kernel_rfl) (by kernel_rfl) (fun _ _ _ h => h) (Or.inl ⟨by rfl, by (intro w hSw; (try dsimp only at hSw); (try obtain ⟨⟨h1, h2, h3, h4, h5, h6⟩, _, _⟩ := hSw); go_simp; try with_reducible rfl)⟩) (by assumption) ?_; simp only [Act.put, List.setIfInBounds_toArray, List.set_cons_succ, List.set_cons_zero]
    refine htake (i := 18) (v := (.int .u64 op.id)) rfl (by kernel_rfl) (by kernel_rfl) (by kernel_rfl) (fun _ _ _ h => h) (Or.inl ⟨by rfl, by (intro w hSw; (try dsimp only at hSw); (try obtain ⟨⟨h1, h2, h3, h4, h5, h6⟩, _, _⟩ := hSw); go_simp; try with_reducible rfl)⟩) (by assumption) ?_; simp only [Act.put, List.setIfInBounds_toArray, List.set_cons_succ, List.set_cons_zero]
    refine htake (i := 20) (v := (.pointer (some ⟨gs, 43, none⟩))) rfl (by kernel_rfl) (by kernel_rfl) (by kernel_rfl) (fun _ _ _ h => h) (Or.inl ⟨by rfl, by (intro w hSw; (try dsimp only at hSw); (try obtain ⟨⟨h1, h2, h3, h4, h5, h6⟩, _, _⟩ := hSw); go_simp; try with_reducible rfl)⟩) (by assumption) ?_; simp only [Act.put, List.setIfInBounds_toArray, List.set_cons_succ, List.set_cons_zero]
    refine htake (i := 21) (v := (.agg (sig.cells wv).toArray)) rfl (by kernel_rfl) (by kernel_rfl) (by kernel_rfl) (fun _ _ _ h => h) (Or.inl ⟨by rfl, yl_loadR rfl rfl Hslen.out (fun _ h => h.2.2)⟩) (by assumption) ?_; simp only [Act.put, List.setIfInBounds_toArray, List.set_cons_succ, List.set_cons_zero]
    refine wpAnyH_ready (rs := [15, 24]) (by kernel_rfl) (by simp) ?_
    refine hcons rfl rfl (fun K hK => ?_) ?_
    · clear hHeld
      refine owp_call rfl (by kernel_rfl) (args := #[.agg op.cond.cells.toArray]) rfl (Hcond.out _) ?_
      rintro e w5 ⟨rfl, hc⟩
      replace hS := hS.call0 hc
      try simp only [List.cons_append, List.nil_append, List.append_nil, List.set_cons_zero, List.set_cons_succ] at hS
      clear hc
      refine ⟨_, rfl, ?_⟩
      refine hK.out _ _ ⟨⟨(hS.get 0 rfl).cell 0 Hg0.out, (hS.get 0 rfl).cell 1 Hg1.out, (hS.get 0 rfl).cell 2 Hg2.out, (hS.get 0 rfl).cell 3 Hg3.out, (hS.get 0 rfl).cell 4 Hg4.out, (hS.get 0 rfl).cell 41 Hg41.out⟩, (hS.get 0 rfl).range 5 36 Hgc.out, (hS.get 0 rfl).range 43 1026 Hgs.out⟩ (fun hHeld => ?_)
      clear hK K
      simp only [Act.put, List.setIfInBounds_toArray, List.set_cons_succ, List.set_cons_zero]
      refine htake (i := 19) (v := (.agg op.cells.toArray)) rfl (by kernel_rfl) (by kernel_rfl) (by kernel_rfl) (fun _ _ _ h => h) (Or.inl ⟨by rfl, yl_build rfl [(0, .int .i64 op.kind), (1, .int .u64 op.amount), (2, .agg op.cond.cells.toArray), (3, .int .u64 op.id)] rfl Hop1.out⟩) (by assumption) ?_; simp only [Act.put, List.setIfInBounds_toArray, List.set_cons_succ, List.set_cons_zero]
      refine wpAnyH_ready (rs := [22, 24]) (by kernel_rfl) (by simp) ?_
      refine hcons rfl rfl (fun K hK => ?_) ?_
      · clear hHeld
        refine owp_call rfl (by kernel_rfl) (args := #[.agg (sig.cells wv).toArray]) rfl (Hsig.out _ (Hv.out.st0 hS)) ?_
        rintro e w6 ⟨wv', y, rfl, hc, hrow⟩
        replace hS := hS.call0 hc
        try simp only [List.cons_append, List.nil_append, List.append_nil, List.set_cons_zero, List.set_cons_succ] at hS
        clear hc
        obtain ⟨a5, c5, rfl⟩ := hrow.isSl
        refine ⟨_, rfl, ?_⟩
        refine hK.out _ _ ⟨⟨(hS.get 0 rfl).cell 0 Hg0.out, (hS.get 0 rfl).cell 1 Hg1.out, (hS.get 0 rfl).cell 2 Hg2.out, (hS.get 0 rfl).cell 3 Hg3.out, (hS.get 0 rfl).cell 4 Hg4.out, (hS.get 0 rfl).cell 41 Hg41.out⟩, (hS.get 0 rfl).range 5 36 Hgc.out, (hS.get 0 rfl).range 43 1026 Hgs.out⟩ (fun hHeld => ?_)
        clear hK K
        simp only [Act.put, List.setIfInBounds_toArray, List.set_cons_succ, List.set_cons_zero]
        refine htake (i := 23) (v := (.agg (Memo.cells ⟨kind, channel, round, op, [], sig⟩ (.slice none 0 0) (.slice a5 sig.way.length c5)).toArray)) rfl (by kernel_rfl) (by kernel_rfl) (by kernel_rfl) (fun _ _ _ h => h) (Or.inl ⟨by rfl, yl_build rfl [(0, .int .i64 kind), (1, .int .u32 channel), (2, .int .u64 round), (3, .agg op.cells.toArray), (5, .agg (sig.cells (.slice a5 sig.way.length c5)).toArray)] rfl (build_memoR kind channel round op sig (.slice a5 sig.way.length c5) Hol.out Hsl.out)⟩) (by assumption) ?_; simp only [Act.put, List.setIfInBounds_toArray, List.set_cons_succ, List.set_cons_zero]
        refine wpAnyH_ready (rs := [24]) (by kernel_rfl) (by simp) ?_
        refine hcons rfl rfl (fun K hK => ?_) ?_
        · clear hHeld
          refine owp_alloc hS rfl ?_
          clear hS; intro go _ hS; try simp only [List.cons_append, List.nil_append, List.append_nil, List.set_cons_zero, List.set_cons_succ] at hS
          refine hK.out _ _ ⟨⟨(hS.get 0 rfl).cell 0 Hg0.out, (hS.get 0 rfl).cell 1 Hg1.out, (hS.get 0 rfl).cell 2 Hg2.out, (hS.get 0 rfl).cell 3 Hg3.out, (hS.get 0 rfl).cell 4 Hg4.out, (hS.get 0 rfl).cell 41 Hg41.out⟩, (hS.get 0 rfl).range 5 36 Hgc.out, (hS.get 0 rfl).range 43 1026 Hgs.out⟩ (fun hHeld => ?_)
          clear hK K
          simp only [Act.put, List.setIfInBounds_toArray, List.set_cons_succ, List.set_cons_zero]
          refine wpAnyH_ready (rs := [25]) (by kernel_rfl) (by simp) ?_
          refine hcons rfl rfl (fun K hK => ?_) ?_
          · clear hHeld
            refine owp_storeW hS 3 rfl rfl rfl rfl (Memo.lenmk _ _ _ _ _ _ _ _ Hol.out Hsl.out) (Memo.Fit.zero.len _ _) (Memo.one _ _ _ rfl rfl) ?_
            clear hS; intro _ hS; try simp only [List.cons_append, List.nil_append, List.append_nil, List.set_cons_zero, List.set_cons_succ] at hS
            refine hK.out _ _ ⟨⟨(hS.get 0 rfl).cell 0 Hg0.out, (hS.get 0 rfl).cell 1 Hg1.out, (hS.get 0 rfl).cell 2 Hg2.out, (hS.get 0 rfl).cell 3 Hg3.out, (hS.get 0 rfl).cell 4 Hg4.out, (hS.get 0 rfl).cell 41 Hg41.out⟩, (hS.get 0 rfl).range 5 36 Hgc.out, (hS.get 0 rfl).range 43 1026 Hgs.out⟩ (fun hHeld => ?_)
            clear hK K
            simp only [Act.put, List.setIfInBounds_toArray, List.set_cons_succ, List.set_cons_zero]
            refine wpAnyH_done (by kernel_rfl) ?_ _
            clear hHeld
            replace hS := hS.pick [0, 1, 3, 2] rfl (by decide)
            go_wp2_with fail
            go_meet
            exact ⟨go, _, y, rfl, hrow, hS⟩
          exact AllReadyH.nil
        exact AllReadyH.nil
      refine hcons rfl rfl (fun K hK => ?_) ?_
      · clear hHeld
        refine owp_alloc hS rfl ?_
        clear hS; intro go _ hS; try simp only [List.cons_append, List.nil_append, List.append_nil, List.set_cons_zero, List.set_cons_succ] at hS
        refine hK.out _ _ ⟨⟨(hS.get 0 rfl).cell 0 Hg0.out, (hS.get 0 rfl).cell 1 Hg1.out, (hS.get 0 rfl).cell 2 Hg2.out, (hS.get 0 rfl).cell 3 Hg3.out, (hS.get 0 rfl).cell 4 Hg4.out, (hS.get 0 rfl).cell 41 Hg41.out⟩, (hS.get 0 rfl).range 5 36 Hgc.out, (hS.get 0 rfl).range 43 1026 Hgs.out⟩ (fun hHeld => ?_)
        clear hK K
        simp only [Act.put, List.setIfInBounds_toArray, List.set_cons_succ, List.set_cons_zero]
        refine wpAnyH_ready (rs := [22]) (by kernel_rfl) (by simp) ?_
        refine hcons rfl rfl (fun K hK => ?_) ?_
        · clear hHeld
          refine owp_call rfl (by kernel_rfl) (args := #[.agg (sig.cells wv).toArray]) rfl (Hsig.out _ (Hv.out.st0 hS)) ?_
          rintro e w6 ⟨wv', y, rfl, hc, hrow⟩
          replace hS := hS.call0 hc
          try simp only [List.cons_append, List.nil_append, List.append_nil, List.set_cons_zero, List.set_cons_succ] at hS
          clear hc
          obtain ⟨a5, c5, rfl⟩ := hrow.isSl
          refine ⟨_, rfl, ?_⟩
          refine hK.out _ _ ⟨⟨(hS.get 0 rfl).cell 0 Hg0.out, (hS.get 0 rfl).cell 1 Hg1.out, (hS.get 0 rfl).cell 2 Hg2.out, (hS.get 0 rfl).cell 3 Hg3.out, (hS.get 0 rfl).cell 4 Hg4.out, (hS.get 0 rfl).cell 41 Hg41.out⟩, (hS.get 0 rfl).range 5 36 Hgc.out, (hS.get 0 rfl).range 43 1026 Hgs.out⟩ (fun hHeld => ?_)
          clear hK K
          simp only [Act.put, List.setIfInBounds_toArray, List.set_cons_succ, List.set_cons_zero]
          refine htake (i := 23) (v := (.agg (Memo.cells ⟨kind, channel, round, op, [], sig⟩ (.slice none 0 0) (.slice a5 sig.way.length c5)).toArray)) rfl (by kernel_rfl) (by kernel_rfl) (by kernel_rfl) (fun _ _ _ h => h) (Or.inl ⟨by rfl, yl_build rfl [(0, .int .i64 kind), (1, .int .u32 channel), (2, .int .u64 round), (3, .agg op.cells.toArray), (5, .agg (sig.cells (.slice a5 sig.way.length c5)).toArray)] rfl (build_memoR kind channel round op sig (.slice a5 sig.way.length c5) Hol.out Hsl.out)⟩) (by assumption) ?_; simp only [Act.put, List.setIfInBounds_toArray, List.set_cons_succ, List.set_cons_zero]
          refine wpAnyH_ready (rs := [25]) (by kernel_rfl) (by simp) ?_
          refine hcons rfl rfl (fun K hK => ?_) ?_
          · clear hHeld
            refine owp_storeW hS 2 rfl rfl rfl rfl (Memo.lenmk _ _ _ _ _ _ _ _ Hol.out Hsl.out) (Memo.Fit.zero.len _ _) (Memo.one _ _ _ rfl rfl) ?_
            clear hS; intro _ hS; try simp only [List.cons_append, List.nil_append, List.append_nil, List.set_cons_zero, List.set_cons_succ] at hS
            refine hK.out _ _ ⟨⟨(hS.get 0 rfl).cell 0 Hg0.out, (hS.get 0 rfl).cell 1 Hg1.out, (hS.get 0 rfl).cell 2 Hg2.out, (hS.get 0 rfl).cell 3 Hg3.out, (hS.get 0 rfl).cell 4 Hg4.out, (hS.get 0 rfl).cell 41 Hg41.out⟩, (hS.get 0 rfl).range 5 36 Hgc.out, (hS.get 0 rfl).range 43 1026 Hgs.out⟩ (fun hHeld => ?_)
            clear hK K
            simp only [Act.put, List.setIfInBounds_toArray, List.set_cons_succ, List.set_cons_zero]
            refine wpAnyH_done (by kernel_rfl) ?_ _
            clear hHeld
            go_wp2_with fail
            go_meet
            exact ⟨go, _, y, rfl, hrow, hS⟩
          exact AllReadyH.nil
        exact AllReadyH.nil
      exact AllReadyH.nil
    refine hcons rfl rfl (fun K hK => ?_) ?_
    · clear hHeld
      refine owp_alloc hS rfl ?_
      clear hS; intro go _ hS; try simp only [List.cons_append, List.nil_append, List.append_nil, List.set_cons_zero, List.set_cons_succ] at hS
      refine hK.out _ _ ⟨⟨(hS.get 0 rfl).cell 0 Hg0.out, (hS.get 0 rfl).cell 1 Hg1.out, (hS.get 0 rfl).cell 2 Hg2.out, (hS.get 0 rfl).cell 3 Hg3.out, (hS.get 0 rfl).cell 4 Hg4.out, (hS.get 0 rfl).cell 41 Hg41.out⟩, (hS.get 0 rfl).range 5 36 Hgc.out, (hS.get 0 rfl).range 43 1026 Hgs.out⟩ (fun hHeld => ?_)
      clear hK K
      simp only [Act.put, List.setIfInBounds_toArray, List.set_cons_succ, List.set_cons_zero]
      refine wpAnyH_ready (rs := [15]) (by kernel_rfl) (by simp) ?_
      refine hcons rfl rfl (fun K hK => ?_) ?_
      · clear hHeld
        refine owp_call rfl (by kernel_rfl) (args := #[.agg op.cond.cells.toArray]) rfl (Hcond.out _) ?_
        rintro e w5 ⟨rfl, hc⟩
        replace hS := hS.call0 hc
        try simp only [List.cons_append, List.nil_append, List.append_nil, List.set_cons_zero, List.set_cons_succ] at hS
        clear hc
        refine ⟨_, rfl, ?_⟩
        refine hK.out _ _ ⟨⟨(hS.get 0 rfl).cell 0 Hg0.out, (hS.get 0 rfl).cell 1 Hg1.out, (hS.get 0 rfl).cell 2 Hg2.out, (hS.get 0 rfl).cell 3 Hg3.out, (hS.get 0 rfl).cell 4 Hg4.out, (hS.get 0 rfl).cell 41 Hg41.out⟩, (hS.get 0 rfl).range 5 36 Hgc.out, (hS.get 0 rfl).range 43 1026 Hgs.out⟩ (fun hHeld => ?_)
        clear hK K
        simp only [Act.put, List.setIfInBounds_toArray, List.set_cons_succ, List.set_cons_zero]
        refine htake (i := 19) (v := (.agg op.cells.toArray)) rfl (by kernel_rfl) (by kernel_rfl) (by kernel_rfl) (fun _ _ _ h => h) (Or.inl ⟨by rfl, yl_build rfl [(0, .int .i64 op.kind), (1, .int .u64 op.amount), (2, .agg op.cond.cells.toArray), (3, .int .u64 op.id)] rfl Hop1.out⟩) (by assumption) ?_; simp only [Act.put, List.setIfInBounds_toArray, List.set_cons_succ, List.set_cons_zero]
        refine wpAnyH_ready (rs := [22]) (by kernel_rfl) (by simp) ?_
        refine hcons rfl rfl (fun K hK => ?_) ?_
        · clear hHeld
          refine owp_call rfl (by kernel_rfl) (args := #[.agg (sig.cells wv).toArray]) rfl (Hsig.out _ (Hv.out.st0 hS)) ?_
          rintro e w6 ⟨wv', y, rfl, hc, hrow⟩
          replace hS := hS.call0 hc
          try simp only [List.cons_append, List.nil_append, List.append_nil, List.set_cons_zero, List.set_cons_succ] at hS
          clear hc
          obtain ⟨a5, c5, rfl⟩ := hrow.isSl
          refine ⟨_, rfl, ?_⟩
          refine hK.out _ _ ⟨⟨(hS.get 0 rfl).cell 0 Hg0.out, (hS.get 0 rfl).cell 1 Hg1.out, (hS.get 0 rfl).cell 2 Hg2.out, (hS.get 0 rfl).cell 3 Hg3.out, (hS.get 0 rfl).cell 4 Hg4.out, (hS.get 0 rfl).cell 41 Hg41.out⟩, (hS.get 0 rfl).range 5 36 Hgc.out, (hS.get 0 rfl).range 43 1026 Hgs.out⟩ (fun hHeld => ?_)
          clear hK K
          simp only [Act.put, List.setIfInBounds_toArray, List.set_cons_succ, List.set_cons_zero]
          refine htake (i := 23) (v := (.agg (Memo.cells ⟨kind, channel, round, op, [], sig⟩ (.slice none 0 0) (.slice a5 sig.way.length c5)).toArray)) rfl (by kernel_rfl) (by kernel_rfl) (by kernel_rfl) (fun _ _ _ h => h) (Or.inl ⟨by rfl, yl_build rfl [(0, .int .i64 kind), (1, .int .u32 channel), (2, .int .u64 round), (3, .agg op.cells.toArray), (5, .agg (sig.cells (.slice a5 sig.way.length c5)).toArray)] rfl (build_memoR kind channel round op sig (.slice a5 sig.way.length c5) Hol.out Hsl.out)⟩) (by assumption) ?_; simp only [Act.put, List.setIfInBounds_toArray, List.set_cons_succ, List.set_cons_zero]
          refine wpAnyH_ready (rs := [25]) (by kernel_rfl) (by simp) ?_
          refine hcons rfl rfl (fun K hK => ?_) ?_
          · clear hHeld
            refine owp_storeW hS 2 rfl rfl rfl rfl (Memo.lenmk _ _ _ _ _ _ _ _ Hol.out Hsl.out) (Memo.Fit.zero.len _ _) (Memo.one _ _ _ rfl rfl) ?_
            clear hS; intro _ hS; try simp only [List.cons_append, List.nil_append, List.append_nil, List.set_cons_zero, List.set_cons_succ] at hS
            refine hK.out _ _ ⟨⟨(hS.get 0 rfl).cell 0 Hg0.out, (hS.get 0 rfl).cell 1 Hg1.out, (hS.get 0 rfl).cell 2 Hg2.out, (hS.get 0 rfl).cell 3 Hg3.out, (hS.get 0 rfl).cell 4 Hg4.out, (hS.get 0 rfl).cell 41 Hg41.out⟩, (hS.get 0 rfl).range 5 36 Hgc.out, (hS.get 0 rfl).range 43 1026 Hgs.out⟩ (fun hHeld => ?_)
            clear hK K
            simp only [Act.put, List.setIfInBounds_toArray, List.set_cons_succ, List.set_cons_zero]
            refine wpAnyH_done (by kernel_rfl) ?_ _
            clear hHeld
            go_wp2_with fail
            go_meet
            exact ⟨go, _, y, rfl, hrow, hS⟩
          exact AllReadyH.nil
        exact AllReadyH.nil
      exact AllReadyH.nil
    exact AllReadyH.nil
  case rest =>
    clear hS
    obtain ⟨go, wv', y, rfl, hrowy, hS⟩ := hcut
    obtain ⟨a5, c5, rfl⟩ := hrowy.isSl
    have Hrowy := Lib.hid hrowy
    clear hrowy
    replace hS := hS.addNone
    try simp only [List.cons_append, List.nil_append, List.append_nil, List.set_cons_zero, List.set_cons_succ] at hS
    go_wp2_with (first | ((with_reducible show wpList _ _ _ (Oper.mk _ (Op.load _ _) _ _ _ _ :: _) _ _); refine wpl rfl ?_; refine owp_load1 hS 0 rfl rfl rfl Hg42.out ?_))
    go_loopw [5, 33] (fun _ i wr => ∃ (k : Nat) (tv' : Value) (x : Ent), k ≤ trail.length ∧ i = .int .i64 k ∧ RowV 97 3 tv' k (hopCells (trail.take k)) x ∧
        St w [] wr [some (gs, cs, 43), some (gr, Memo.zero.cells (.slice none 0 0) (.slice none 0 0), 60), some (go, Memo.cells ⟨kind, channel, round, op, [], sig⟩ tv' (.slice a5 sig.way.length c5), 60), y, x]) (fun _ i _ => trail.length - (intOf i).toNat)
    case atStart => exact ⟨0, .slice none 0 0, none, Nat.zero_le _, rfl, RowV.nil _ _, hS⟩
    case round =>
      clear hS
      obtain ⟨k, tv', x, hk, rfl, hrow, hS⟩ := hrel
      obtain ⟨a6, c6, rfl⟩ := hrow.isSl
      have Hg := Lib.hid (show (Memo.cells ⟨kind, channel, round, op, [], sig⟩ (.slice a6 k c6) (.slice a5 sig.way.length c5))[42]? = some (.slice a6 k c6) by
        simp [Memo.cells, List.getElem?_append, Hol.out])
      by_cases hlt : k < trail.length
      · obtain ⟨g, off, rfl, hcs⟩ := Ht.out.cellsAll k hlt
        rw [hopCells_drop trail k hlt] at hcs
        have Hcs := Lib.hid hcs
        have Hstep := Lib.hid (hopCells_take_succ trail k hlt)
        have h63 : k + 1 ≤ maxLen := by unfold maxLen; omega
        have hby : (k + 1) * 24 ≤ 140737488355328 := by omega
        clear hcs
        generalize trail[k] = h at *
        generalize hopCells (trail.take k) = rows at *
        have Hbh := Lib.hid (build_hopR h)
        go_wp2_with (first
          | ((with_reducible show wpList _ _ _ (Oper.mk (some 36) (Op.load _ _) _ _ _ _ :: _) _ _); refine wpl rfl ?_; refine owp_loadR rfl rfl (Hcs.out _ _ hS) rfl ?_)
          | ((with_reducible show wpList _ _ _ (Oper.mk (some 38) (Op.load _ _) _ _ _ _ :: _) _ _); refine wpl rfl ?_; refine owp_load1 hS 2 rfl rfl rfl Hg.out ?_)
          | ((with_reducible show wpList _ _ _ (Oper.mk _ (Op.load _ _) _ _ _ _ :: _) _ _); refine wpl rfl ?_; first | refine owp_load1 hS 5 rfl rfl rfl (show h.cells[0]? = some (.int .u32 h.channel) from rfl) ?_ | refine owp_load1 hS 5 rfl rfl rfl (show h.cells[1]? = some (.int .u64 h.amount) from rfl) ?_ | refine owp_load1 hS 5 rfl rfl rfl (show h.cells[2]? = some (.int .u64 h.id) from rfl) ?_)
          | ((with_reducible show wpList _ _ _ (Oper.mk (some 5) (Op.alloc _) _ _ _ _ :: _) _ _); refine wpl rfl ?_; refine (owp_allocAt hS 5 rfl rfl ?_); clear hS; intro gd _ hS; simp only [List.cons_append, List.nil_append] at hS)
          | ((with_reducible show wpList _ _ _ (Oper.mk _ (Op.store _ _ _) _ _ _ _ :: _) _ _); refine wpl rfl ?_; refine (owp_storeW hS 5 rfl rfl rfl rfl (by rfl) (by rfl) (Hop.one _) ?_); clear hS; intro _ hS; try simp only [List.cons_append, List.nil_append, List.append_nil, List.set_cons_zero, List.set_cons_succ] at hS)
          | ((with_reducible show wpList _ _ _ (Oper.mk _ (Op.build _ _) _ _ _ _ :: _) _ _); refine wpl rfl ?_; refine owp_build rfl [(0, .int .u32 h.channel), (1, .int .u64 h.amount), (2, .int .u64 h.id)] rfl (Hbh.out _) ?_)
          | ((with_reducible show wpList _ _ _ (Oper.mk _ (Op.buildSlice _ _ _) _ _ _ _ :: _) _ _); refine wpl rfl ?_; refine owp_bslice1 (vs := h.cells) hS rfl rfl (by rfl) (by decide) ?_; clear hS; intro gb _ hS; try simp only [List.cons_append, List.nil_append, List.append_nil, List.set_cons_zero, List.set_cons_succ] at hS)
          | ((with_reducible show wpList _ _ _ (Oper.mk _ (Op.call (Call.mk (Callee.builtin Builtin.append) _ _)) _ _ _ _ :: _) _ _); refine wpl rfl ?_; refine owp_append hS 4 rfl rfl rfl hrow rfl ((RowV.lit 97 3 gb 1 h.cells rfl (by decide)).read (hS.get 6 rfl)) (Hop.one _) h63 hby ?_; clear hS hrow; intro v' x'' w2 hrow hS _; obtain ⟨a7, c7, rfl⟩ := hrow.isSl; try simp only [List.cons_append, List.nil_append, List.append_nil, List.set_cons_zero, List.set_cons_succ] at hS)
          | ((with_reducible show wpList _ _ _ (Oper.mk _ (Op.store _ _ _) _ _ _ _ :: _) _ _); refine wpl rfl ?_; refine owp_store1 hS 2 rfl rfl rfl rfl rfl (Memo.lt _ _ _ _ _ _ _ _ Hol.out Hsl.out (by omega)) (Memo.set_trail _ _ _ _ _ _ _ _ Hol.out _ []) ?_; clear hS; intro _ hS; try simp only [List.cons_append, List.nil_append, List.append_nil, List.set_cons_zero, List.set_cons_succ] at hS))
        refine ⟨⟨k + 1, _, x'', by omega, by simp, ?_, hS.pick [0, 1, 2, 3, 4] rfl (by decide)⟩, by simp [intOf]; omega⟩
        rw [Hstep.out]
        exact hrow
      · have hkn : k = trail.length := by omega
        subst hkn
        rw [List.take_length] at hrow
        have Hfin := Lib.hid (show (Memo.cells ⟨kind, channel, round, op, [], sig⟩ (.slice a6 trail.length c6) (.slice a5 sig.way.length c5)).length = 1069 from Memo.lenmk _ _ _ _ _ _ _ _ Hol.out Hsl.out)
        have Hfin1 := Lib.hid (Memo.one ⟨kind, channel, round, op, [], sig⟩ (.slice a6 trail.length c6) (.slice a5 sig.way.length c5) rfl rfl)
        go_wp2_with (first | ((with_reducible show wpList _ _ _ (Oper.mk _ (Op.load _ _) _ _ _ _ :: _) _ _); refine wpl rfl ?_; refine (owp_loadW hS 2 rfl rfl rfl (Hfin.out) ?_)) | ((with_reducible show wpList _ _ _ (Oper.mk _ (Op.store _ _ _) _ _ _ _ :: _) _ _); refine wpl rfl ?_; refine (owp_storeW hS 1 rfl rfl rfl rfl (Hfin.out) (Memo.Fit.zero.len _ _) (Hfin1.out) ?_); clear hS; intro _ hS; try simp only [List.cons_append, List.nil_append, List.append_nil, List.set_cons_zero, List.set_cons_succ] at hS))
        (try simp only [Exit.inBlock, Exit.then]); refine bodyPost_ret (res_cell rfl rfl hS 1 rfl (Hfin.out)) rfl ?_
        exact ⟨_, _, x, y, rfl, hS.pick [4, 3] rfl (by decide), hrow, Hrowy.out⟩

end Go.Proofs.Ytjgphbdffhmmgaa
