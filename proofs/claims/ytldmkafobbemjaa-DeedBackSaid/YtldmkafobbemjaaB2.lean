/-
  A ring's signature turned into the document's.
  A memo turned into the document's.
  The document's comparison says true of two ring's signatures that are alike.
  The document's comparison says true of two memos that are alike.
  What is read off bytes fits: lengths of what is taken.
  The plain data of states and deeds, and what is read off bytes: no program in sight.
-/
import Derived.Test.YtldmkafobbemjaaB1
import Derived.Test.YtldmkafobbemjaaA9
namespace Go.Proofs.Ytldmkafobbemjaa
set_option linter.unusedSimpArgs false
set_option linter.unusedVariables false
open Go Go.RowKit
set_option maxRecDepth 100000
set_option maxHeartbeats 2000000

structure Sig.Fit (s : Sig) : Prop where
  shown : s.l.shown.length = 512
  other : s.l.other.length = 512
  way : ∀ d, d ∈ s.way → d.length = 32

theorem wayCells_drop : ∀ (l : List (List UInt8)) (_ : ∀ d, d ∈ l → d.length = 32) (k : Nat) (h : k < l.length), ((wayCells l).drop (k * 32)).take 32 = bs l[k]
  | [], _, k, h => by simp at h
  | x :: l, hl, 0, h => by
    have hx := hl x (by simp)
    simp [wayCells, List.take_append, bs_length, hx]
  | x :: l, hl, k + 1, h => by
    have hx := hl x (by simp)
    have h2 : k < l.length := by simpa using h
    have h3 : wayCells (x :: l) = bs x ++ wayCells l := by simp [wayCells]
    have h4 : (bs x).length = 32 := by rw [bs_length, hx]
    have h5 : (bs x).drop ((k + 1) * 32) = [] := List.drop_eq_nil_of_le (by omega)
    rw [h3, List.drop_append, h5, List.nil_append, show (k + 1) * 32 - (bs x).length = k * 32 by omega, wayCells_drop l (fun d hd => hl d (by simp [hd])) k h2]
    simp

def SigFromPost (T : TypeId) (w : World) (s : Sig) (e : Ending) (w' : World) : Prop :=
  ∃ wv x, e = .returned (.agg (s.cells wv).toArray) ∧ St w [] w' [x] ∧ RowV T 32 wv s.way.length (wayCells s.way) x

theorem sigFrom_ok (s : Sig) (hf : s.Fit) (wv : Value) (w : World) (hv : RowR w 32 wv s.way.length (wayCells s.way)) (hl : s.way.length ≤ 1000) :
    Calls Try.prog 37 #[.agg (s.cells wv).toArray] w (SigFromPost 22 w s) := by
  have hS := St.nil w
  obtain ⟨l, key, way⟩ := s
  simp only at hv hl
  obtain ⟨a0, c0, rfl⟩ := hv.isSl
  have Hll := Lib.hid (LSig.len l hf.shown hf.other)
  have Hv := Lib.hid hv
  have Hway := Lib.hid hf.way
  have Hlamp := Lib.hid (lampFrom_ok l hf.shown hf.other)
  have Hone := Lib.hid (Sig.one ⟨l, key, []⟩ (.slice none 0 0) rfl)
  have Hlen := Lib.hid (Sig.len ⟨l, key, way⟩ (.slice a0 way.length c0) Hll.out)
  have Hg0 := Lib.hid (show ((Sig.cells ⟨l, key, way⟩ (.slice a0 way.length c0)).drop 0).take 1024 = l.cells by
    show ((l.cells ++ [Value.int .u32 key, Value.slice a0 way.length c0]).drop 0).take 1024 = _
    rw [List.drop_zero, List.take_left' Hll.out])
  have Hg1 := Lib.hid (show (Sig.cells ⟨l, key, way⟩ (.slice a0 way.length c0))[1024]? = some (.int .u32 key) by
    show (l.cells ++ [Value.int .u32 key, Value.slice a0 way.length c0])[1024]? = _
    rw [List.getElem?_append_right (Nat.le_of_eq Hll.out), Hll.out]; rfl)
  have Hg2 := Lib.hid (Sig.get_way ⟨l, key, way⟩ (.slice a0 way.length c0) Hll.out)
  have Hb := Lib.hid (build_sigR l key Hll.out)
  clear hv hf
  generalize Sig.cells ⟨l, key, way⟩ (.slice a0 way.length c0) = cs at *
  go_enter Try.func37, Try.ntmps37
  go_upto_region 1 with (first
    | ((with_reducible show wpList _ _ _ (Oper.mk _ (Op.box _ _) _ _ _ _ :: _) _ _); refine wpl rfl ?_; refine owp_box hS rfl (vs := cs) rfl ?_; clear hS; intro gs _ hS; try simp only [List.cons_append, List.nil_append, List.append_nil, List.set_cons_zero, List.set_cons_succ] at hS)
    | ((with_reducible show wpList _ _ _ (Oper.mk (some 2) (Op.alloc _) _ _ _ _ :: _) _ _); refine wpl rfl ?_; refine (owp_allocAt hS 2 rfl rfl ?_); clear hS; intro gr _ hS; simp only [List.cons_append, List.nil_append] at hS))
  simp only [Act.put, List.setIfInBounds_toArray, List.set_cons_succ, List.set_cons_zero]
  go_cut [3] (fun p wr => ∃ go, p = .pointer (some ⟨go, 0, none⟩) ∧ St w [] wr [some (gs, cs, 39), some (gr, Sig.zero.cells (.slice none 0 0), 66), some (go, Sig.cells ⟨l, key, []⟩ (.slice none 0 0), 66)])
  case first =>
    replace hS := hS.drew
    refine wp_region_held_drew (S := (fun w' => CellsAt w' ⟨gs, 0, none⟩ l.cells ∧ w'.cell? ⟨gs, 1024, none⟩ = some (.int .u32 key))) (by kernel_rfl) ⟨(hS.get 0 rfl).range 0 1024 Hg0.out, (hS.get 0 rfl).cell 1024 Hg1.out⟩ (fun hHeld => ?_)
    refine htake (i := 0) (v := (.pointer (some ⟨gs, 0, none⟩))) rfl (by kernel_rfl) (by kernel_rfl) (by kernel_rfl) (fun _ _ _ h => h) (Or.inl ⟨by rfl, by (intro w hSw; (try dsimp only at hSw); (try obtain ⟨h1, h2⟩ := hSw); go_simp; try with_reducible rfl)⟩) (by assumption) ?_; simp only [Act.put, List.setIfInBounds_toArray, List.set_cons_succ, List.set_cons_zero]
    refine htake (i := 1) (v := (.agg l.cells.toArray)) rfl (by kernel_rfl) (by kernel_rfl) (by kernel_rfl) (fun _ _ _ h => h) (Or.inl ⟨by rfl, yl_loadR rfl rfl Hll.out (fun _ h => h.1)⟩) (by assumption) ?_; simp only [Act.put, List.setIfInBounds_toArray, List.set_cons_succ, List.set_cons_zero]
    refine htake (i := 3) (v := (.pointer (some ⟨gs, 1024, none⟩))) rfl (by kernel_rfl) (by kernel_rfl) (by kernel_rfl) (fun _ _ _ h => h) (Or.inl ⟨by rfl, by (intro w hSw; (try dsimp only at hSw); (try obtain ⟨h1, h2⟩ := hSw); go_simp; try with_reducible rfl)⟩) (by assumption) ?_; simp only [Act.put, List.setIfInBounds_toArray, List.set_cons_succ, List.set_cons_zero]
    refine htake (i := 4) (v := (.int .u32 key)) rfl (by kernel_rfl) (by kernel_rfl) (by kernel_rfl) (fun _ _ _ h => h) (Or.inl ⟨by rfl, by (intro w hSw; (try dsimp only at hSw); (try obtain ⟨h1, h2⟩ := hSw); go_simp; try with_reducible rfl)⟩) (by assumption) ?_; simp only [Act.put, List.setIfInBounds_toArray, List.set_cons_succ, List.set_cons_zero]
    refine wpAnyH_ready (rs := [2, 6]) (by kernel_rfl) (by simp) ?_
    refine hcons rfl rfl (fun K hK => ?_) ?_
    · clear hHeld
      refine owp_call rfl (by kernel_rfl) (args := #[.agg l.cells.toArray]) rfl (Hlamp.out _) ?_
      rintro e w5 ⟨rfl, hc⟩
      replace hS := hS.call0 hc
      try simp only [List.cons_append, List.nil_append, List.append_nil, List.set_cons_zero, List.set_cons_succ] at hS
      clear hc
      refine ⟨_, rfl, ?_⟩
      refine hK.out _ _ ⟨(hS.get 0 rfl).range 0 1024 Hg0.out, (hS.get 0 rfl).cell 1024 Hg1.out⟩ (fun hHeld => ?_)
      clear hK K
      simp only [Act.put, List.setIfInBounds_toArray, List.set_cons_succ, List.set_cons_zero]
      refine htake (i := 5) (v := (.agg (Sig.cells ⟨l, key, []⟩ (.slice none 0 0)).toArray)) rfl (by kernel_rfl) (by kernel_rfl) (by kernel_rfl) (fun _ _ _ h => h) (Or.inl ⟨by rfl, yl_build rfl [(0, .agg l.cells.toArray), (1, .int .u32 key)] rfl Hb.out⟩) (by assumption) ?_; simp only [Act.put, List.setIfInBounds_toArray, List.set_cons_succ, List.set_cons_zero]
      refine wpAnyH_ready (rs := [6]) (by kernel_rfl) (by simp) ?_
      refine hcons rfl rfl (fun K hK => ?_) ?_
      · clear hHeld
        refine owp_alloc hS rfl ?_
        clear hS; intro go _ hS; try simp only [List.cons_append, List.nil_append, List.append_nil, List.set_cons_zero, List.set_cons_succ] at hS
        refine hK.out _ _ ⟨(hS.get 0 rfl).range 0 1024 Hg0.out, (hS.get 0 rfl).cell 1024 Hg1.out⟩ (fun hHeld => ?_)
        clear hK K
        simp only [Act.put, List.setIfInBounds_toArray, List.set_cons_succ, List.set_cons_zero]
        refine wpAnyH_ready (rs := [7]) (by kernel_rfl) (by simp) ?_
        refine hcons rfl rfl (fun K hK => ?_) ?_
        · clear hHeld
          refine owp_storeW hS 2 rfl rfl rfl rfl (Sig.len ⟨l, key, []⟩ _ Hll.out) (Sig.len Sig.zero _ lzero_len) Hone.out ?_
          clear hS; intro _ hS; try simp only [List.cons_append, List.nil_append, List.append_nil, List.set_cons_zero, List.set_cons_succ] at hS
          refine hK.out _ _ ⟨(hS.get 0 rfl).range 0 1024 Hg0.out, (hS.get 0 rfl).cell 1024 Hg1.out⟩ (fun hHeld => ?_)
          clear hK K
          simp only [Act.put, List.setIfInBounds_toArray, List.set_cons_succ, List.set_cons_zero]
          refine wpAnyH_done (by kernel_rfl) ?_ _
          clear hHeld
          go_wp2_with fail
          go_meet
          exact ⟨go, rfl, hS.pick [0, 1, 2] rfl (by decide)⟩
        exact AllReadyH.nil
      exact AllReadyH.nil
    refine hcons rfl rfl (fun K hK => ?_) ?_
    · clear hHeld
      refine owp_alloc hS rfl ?_
      clear hS; intro go _ hS; try simp only [List.cons_append, List.nil_append, List.append_nil, List.set_cons_zero, List.set_cons_succ] at hS
      refine hK.out _ _ ⟨(hS.get 0 rfl).range 0 1024 Hg0.out, (hS.get 0 rfl).cell 1024 Hg1.out⟩ (fun hHeld => ?_)
      clear hK K
      simp only [Act.put, List.setIfInBounds_toArray, List.set_cons_succ, List.set_cons_zero]
      refine wpAnyH_ready (rs := [2]) (by kernel_rfl) (by simp) ?_
      refine hcons rfl rfl (fun K hK => ?_) ?_
      · clear hHeld
        refine owp_call rfl (by kernel_rfl) (args := #[.agg l.cells.toArray]) rfl (Hlamp.out _) ?_
        rintro e w5 ⟨rfl, hc⟩
        replace hS := hS.call0 hc
        try simp only [List.cons_append, List.nil_append, List.append_nil, List.set_cons_zero, List.set_cons_succ] at hS
        clear hc
        refine ⟨_, rfl, ?_⟩
        refine hK.out _ _ ⟨(hS.get 0 rfl).range 0 1024 Hg0.out, (hS.get 0 rfl).cell 1024 Hg1.out⟩ (fun hHeld => ?_)
        clear hK K
        simp only [Act.put, List.setIfInBounds_toArray, List.set_cons_succ, List.set_cons_zero]
        refine htake (i := 5) (v := (.agg (Sig.cells ⟨l, key, []⟩ (.slice none 0 0)).toArray)) rfl (by kernel_rfl) (by kernel_rfl) (by kernel_rfl) (fun _ _ _ h => h) (Or.inl ⟨by rfl, yl_build rfl [(0, .agg l.cells.toArray), (1, .int .u32 key)] rfl Hb.out⟩) (by assumption) ?_; simp only [Act.put, List.setIfInBounds_toArray, List.set_cons_succ, List.set_cons_zero]
        refine wpAnyH_ready (rs := [7]) (by kernel_rfl) (by simp) ?_
        refine hcons rfl rfl (fun K hK => ?_) ?_
        · clear hHeld
          refine owp_storeW hS 2 rfl rfl rfl rfl (Sig.len ⟨l, key, []⟩ _ Hll.out) (Sig.len Sig.zero _ lzero_len) Hone.out ?_
          clear hS; intro _ hS; try simp only [List.cons_append, List.nil_append, List.append_nil, List.set_cons_zero, List.set_cons_succ] at hS
          refine hK.out _ _ ⟨(hS.get 0 rfl).range 0 1024 Hg0.out, (hS.get 0 rfl).cell 1024 Hg1.out⟩ (fun hHeld => ?_)
          clear hK K
          simp only [Act.put, List.setIfInBounds_toArray, List.set_cons_succ, List.set_cons_zero]
          refine wpAnyH_done (by kernel_rfl) ?_ _
          clear hHeld
          go_wp2_with fail
          go_meet
          exact ⟨go, rfl, hS.pick [0, 1, 2] rfl (by decide)⟩
        exact AllReadyH.nil
      exact AllReadyH.nil
    exact AllReadyH.nil
  case rest =>
    clear hS
    obtain ⟨go, rfl, hS⟩ := hcut
    replace hS := hS.addNone
    try simp only [List.cons_append, List.nil_append, List.append_nil, List.set_cons_zero, List.set_cons_succ] at hS
    have hway : ∀ d, d ∈ way → d.length = 32 := Hway.out
    have Hw := Lib.hid hway
    clear hway Hway
    go_wp2_with (first | ((with_reducible show wpList _ _ _ (Oper.mk _ (Op.load _ _) _ _ _ _ :: _) _ _); refine wpl rfl ?_; refine owp_load1 hS 0 rfl rfl rfl Hg2.out ?_))
    go_loopw [5, 15] (fun _ i wr => ∃ (k : Nat) (wv' : Value) (x : Ent), k ≤ way.length ∧ i = .int .i64 k ∧ RowV 22 32 wv' k (wayCells (way.take k)) x ∧
        St w [] wr [some (gs, cs, 39), some (gr, Sig.zero.cells (.slice none 0 0), 66), some (go, Sig.cells ⟨l, key, []⟩ wv', 66), x]) (fun _ i _ => way.length - (intOf i).toNat)
    case atStart => exact ⟨0, .slice none 0 0, none, Nat.zero_le _, rfl, RowV.nil _ _, hS⟩
    case round =>
      clear hS
      obtain ⟨k, wv', x, hk, rfl, hrow, hS⟩ := hrel
      obtain ⟨a5, c5, rfl⟩ := hrow.isSl
      by_cases hlt : k < way.length
      · obtain ⟨g, off, rfl, hcs⟩ := Hv.out.cellsAll k hlt
        rw [wayCells_drop way Hw.out k hlt] at hcs
        have Hcs := Lib.hid hcs
        have Hd := Lib.hid (show (bs way[k]).length = 32 by rw [bs_length, Hw.out _ (List.getElem_mem hlt)])
        have Hstep := Lib.hid (show wayCells (way.take (k + 1)) = wayCells (way.take k) ++ bs way[k] by rw [List.take_succ_eq_append_getElem hlt, wayCells_snoc])
        have h63 : k + 1 ≤ maxLen := by unfold maxLen; omega
        have hby : (k + 1) * 32 ≤ 140737488355328 := by omega
        clear hcs
        generalize way[k] = d at *
        generalize wayCells (way.take k) = rows at *
        go_wp2_with (first
          | ((with_reducible show wpList _ _ _ (Oper.mk _ (Op.load _ _) _ _ _ _ :: _) _ _); refine wpl rfl ?_; first
              | refine owp_loadR rfl rfl (Hcs.out _ _ hS) Hd.out ?_
              | refine owp_load1 hS 2 rfl rfl rfl (Sig.get_way _ _ Hll.out) ?_
              | refine owp_loadW hS 4 rfl rfl rfl Hd.out ?_)
          | ((with_reducible show wpList _ _ _ (Oper.mk (some 5) (Op.alloc _) _ _ _ _ :: _) _ _); refine wpl rfl ?_; refine (owp_allocAt hS 5 rfl rfl ?_); clear hS; intro gd _ hS; simp only [List.cons_append, List.nil_append] at hS)
          | ((with_reducible show wpList _ _ _ (Oper.mk _ (Op.store _ _ _) _ _ _ _ :: _) _ _); refine wpl rfl ?_; refine (owp_storeW hS 4 rfl rfl rfl rfl (Hd.out) (by rfl) (bs_one _) ?_); clear hS; intro _ hS; try simp only [List.cons_append, List.nil_append, List.append_nil, List.set_cons_zero, List.set_cons_succ] at hS)
          | ((with_reducible show wpList _ _ _ (Oper.mk _ (Op.buildSlice _ _ _) _ _ _ _ :: _) _ _); refine wpl rfl ?_; refine owp_bslice1 (vs := bs d) hS rfl rfl Hd.out (by decide) ?_; clear hS; intro gb _ hS; try simp only [List.cons_append, List.nil_append, List.append_nil, List.set_cons_zero, List.set_cons_succ] at hS)
          | ((with_reducible show wpList _ _ _ (Oper.mk _ (Op.call (Call.mk (Callee.builtin Builtin.append) _ _)) _ _ _ _ :: _) _ _); refine wpl rfl ?_; refine owp_append hS 3 rfl rfl rfl hrow rfl ((RowV.lit 22 32 gb 1 (bs d) (by rw [Hd.out]) (by decide)).read (hS.get 5 rfl)) (bs_one _) h63 hby ?_; clear hS hrow; intro v' x'' w2 hrow hS _; obtain ⟨a6, c6, rfl⟩ := hrow.isSl; try simp only [List.cons_append, List.nil_append, List.append_nil, List.set_cons_zero, List.set_cons_succ] at hS)
          | ((with_reducible show wpList _ _ _ (Oper.mk _ (Op.store _ _ _) _ _ _ _ :: _) _ _); refine wpl rfl ?_; refine owp_store1 hS 2 rfl rfl rfl rfl rfl (by rw [Sig.len _ _ Hll.out]; omega) (Sig.set_way _ _ _ [] _ _ Hll.out) ?_; clear hS; intro _ hS; try simp only [List.cons_append, List.nil_append, List.append_nil, List.set_cons_zero, List.set_cons_succ] at hS))
        refine ⟨⟨k + 1, _, x'', by omega, by simp, ?_, hS.pick [0, 1, 2, 3] rfl (by decide)⟩, by simp [intOf]; omega⟩
        rw [Hstep.out]
        exact hrow
      · have hkn : k = way.length := by omega
        subst hkn
        rw [List.take_length] at hrow
        have Hfin := Lib.hid (Sig.len ⟨l, key, []⟩ (.slice a5 way.length c5) Hll.out)
        have Hfin1 := Lib.hid (Sig.one ⟨l, key, []⟩ (.slice a5 way.length c5) rfl)
        go_wp2_with (first | ((with_reducible show wpList _ _ _ (Oper.mk _ (Op.load _ _) _ _ _ _ :: _) _ _); refine wpl rfl ?_; refine (owp_loadW hS 2 rfl rfl rfl (Hfin.out) ?_)) | ((with_reducible show wpList _ _ _ (Oper.mk _ (Op.store _ _ _) _ _ _ _ :: _) _ _); refine wpl rfl ?_; refine (owp_storeW hS 1 rfl rfl rfl rfl (Hfin.out) (Sig.len Sig.zero _ lzero_len) (Hfin1.out) ?_); clear hS; intro _ hS; try simp only [List.cons_append, List.nil_append, List.append_nil, List.set_cons_zero, List.set_cons_succ] at hS))
        (try simp only [Exit.inBlock, Exit.then]); refine bodyPost_ret (res_cell rfl rfl hS 1 rfl (Hfin.out)) rfl ?_
        exact ⟨_, x, rfl, hS.pick [3] rfl (by decide), hrow⟩

end Go.Proofs.Ytldmkafobbemjaa
namespace Go.Proofs.Ytldmkafobbemjaa
set_option linter.unusedSimpArgs false
set_option linter.unusedVariables false
open Go Go.RowKit
set_option maxRecDepth 100000
set_option maxHeartbeats 2000000

structure Memo.Full (m : Memo) : Prop where
  fit : m.Fit
  sig : m.sig.Fit

theorem Memo.gc {m : Memo} (h : m.Fit) (tv wv : Value) : ((m.cells tv wv).drop 5).take 36 = m.op.cond.cells := by
  have hc := Cond.len m.op.cond h.hash
  simp [Memo.cells, Oop.cells, hc, List.take_append]
theorem Memo.g4 (m : Memo) (tv wv : Value) : (m.cells tv wv)[4]? = some (.int .u64 m.op.amount) := rfl
theorem Memo.g41 {m : Memo} (h : m.Fit) (tv wv : Value) : (m.cells tv wv)[41]? = some (.int .u64 m.op.id) := by
  simp [Memo.cells, Oop.cells, List.getElem?_append, Cond.len _ h.hash]
theorem Memo.gs {m : Memo} (h : m.Fit) (tv wv : Value) : ((m.cells tv wv).drop 43).take 1026 = m.sig.cells wv := by
  have e1 : m.cells tv wv = ([Value.int .i64 m.kind, Value.int .u32 m.channel, Value.int .u64 m.round] ++ m.op.cells ++ [tv]) ++ m.sig.cells wv := by simp [Memo.cells]
  rw [e1, List.drop_left' (by simp [h.op]), List.take_of_length_le (Nat.le_of_eq (Sig.len _ _ h.l))]
theorem hopCells_take_succ (l : List Hop) (k : Nat) (h : k < l.length) : hopCells (l.take (k + 1)) = hopCells (l.take k) ++ l[k].cells := by
  rw [List.take_succ_eq_append_getElem h, hopCells_snoc]

def MemoFromPost (T H : TypeId) (w : World) (m : Memo) (e : Ending) (w' : World) : Prop :=
  ∃ tv wv x y, e = .returned (.agg (m.cells tv wv).toArray) ∧ St w [] w' [x, y] ∧ RowV H 3 tv m.trail.length (hopCells m.trail) x ∧ RowV T 32 wv m.sig.way.length (wayCells m.sig.way) y

end Go.Proofs.Ytldmkafobbemjaa
namespace Go.Proofs.Ytldmkafobbemjaa
set_option linter.unusedSimpArgs false
set_option linter.unusedVariables false
open Go Go.RowKit
set_option maxRecDepth 100000
set_option maxHeartbeats 2000000

theorem run_neq_same {P : Program} {a : Act} {w : World} {o : Oper} {t ty : TypeId} {x y : Operand} (ho : o.op = .binOp .neq t x y ty) {ks : List IntKind} {d : Nat}
    (he : ETy P t true ks d) (hd : d ≤ 10000) (hg : P.eqGuardType P.depth t = false) {cs : List Value} (hx : a.eval x = .agg cs.toArray) (hy : a.eval y = .agg cs.toArray) (hl : LikeK ks cs) :
    (execOp a.eval o).run P w = .ok (.value (.bool false)) w := by
  obtain ⟨r, hr, hiff⟩ := he.eq 10000 hd w cs cs hl hl
  have hrb : r = true := by simpa using hiff
  subst hrb
  simp only [valT, if_true] at hr
  unfold execOp
  simp only [ho, hx, hy, Sem.run_bind, run_eqGuard_agg w .neq t x y cs.toArray cs.toArray hg, Result.andThen_ok, run_neq_struct, hr, Sem.run_pure]
  rfl

theorem owp_neqs {P : Program} {Q : Exit → Act → World → Prop} {K : Act → World → Prop} {a : Act} {w : World} {o : Oper} {t ty : TypeId} {x y : Operand} (ho : o.op = .binOp .neq t x y ty) {ks : List IntKind} {d : Nat}
    (he : ETy P t true ks d) (hd : d ≤ 10000) (hg : P.eqGuardType P.depth t = false) {cs : List Value} (hx : a.eval x = .agg cs.toArray) (hy : a.eval y = .agg cs.toArray) (hl : LikeK ks cs)
    (hk : K (a.put o.dst (.bool false)) w) : o.wp P a w K Q := owp_val (run_neq_same ho he hd hg hx hy hl) hk

theorem gd_arr32 : Try.prog.eqGuardType Try.prog.depth 22 = false := by kernel_rfl

theorem Sig.parts (s : Sig) (hl : s.l.cells.length = 1024) (v : Value) : ((s.cells v).drop 0).take 1024 = s.l.cells ∧ (s.cells v)[1024]? = some (.int .u32 s.key) ∧ (s.cells v)[1025]? = some v := by
  refine ⟨?_, ?_, Sig.get_way _ _ hl⟩
  · show ((s.l.cells ++ [Value.int .u32 s.key, v]).drop 0).take 1024 = _
    rw [List.drop_zero, List.take_left' hl]
  · show (s.l.cells ++ [Value.int .u32 s.key, v])[1024]? = _
    rw [List.getElem?_append_right (Nat.le_of_eq hl), hl]; rfl

def TruePost (w : World) (e : Ending) (w' : World) : Prop := e = .returned (.bool true) ∧ St w [] w' []

theorem sigSame_ok (s : Sig) (hf : s.Fit) (u v : Value) (w : World) (hu : RowR w 32 u s.way.length (wayCells s.way)) (hv : RowR w 32 v s.way.length (wayCells s.way)) (hle : s.way.length ≤ 1000) :
    Calls Try.prog 36 #[.agg (s.cells u).toArray, .agg (s.cells v).toArray] w (TruePost w) := by
  have hS := St.nil w
  obtain ⟨a0, c0, rfl⟩ := hu.isSl
  obtain ⟨a1, c1, rfl⟩ := hv.isSl
  have hll := LSig.len s.l hf.shown hf.other
  have Hll := Lib.hid hll
  have Hlike := Lib.hid (LSig.like s.l hf.shown hf.other)
  have Hway := Lib.hid hf.way
  have Hu := Lib.hid hu
  have Hv := Lib.hid hv
  have Ha := Lib.hid (Sig.parts s hll (.slice a0 s.way.length c0))
  have Hb := Lib.hid (Sig.parts s hll (.slice a1 s.way.length c1))
  clear hu hv hf hll
  generalize s.cells (.slice a0 s.way.length c0) = ca at *
  generalize s.cells (.slice a1 s.way.length c1) = cb at *
  go_enter Try.func36, Try.ntmps36
  go_wp2_with (first
    | ((with_reducible show wpList _ _ _ (Oper.mk (some 2) (Op.box _ _) _ _ _ _ :: _) _ _); refine wpl rfl ?_; refine owp_box hS rfl (vs := ca) rfl ?_; clear hS; intro ga _ hS; try simp only [List.cons_append, List.nil_append, List.append_nil, List.set_cons_zero, List.set_cons_succ] at hS)
    | ((with_reducible show wpList _ _ _ (Oper.mk (some 3) (Op.box _ _) _ _ _ _ :: _) _ _); refine wpl rfl ?_; refine owp_box hS rfl (vs := cb) rfl ?_; clear hS; intro gb _ hS; try simp only [List.cons_append, List.nil_append, List.append_nil, List.set_cons_zero, List.set_cons_succ] at hS)
    | ((with_reducible show wpList _ _ _ (Oper.mk (some 7) (Op.load _ _) _ _ _ _ :: _) _ _); refine wpl rfl ?_; refine owp_load hS 0 rfl rfl rfl Ha.out.1 Hll.out ?_)
    | ((with_reducible show wpList _ _ _ (Oper.mk (some 9) (Op.load _ _) _ _ _ _ :: _) _ _); refine wpl rfl ?_; refine owp_load hS 1 rfl rfl rfl Hb.out.1 Hll.out ?_)
    | ((with_reducible show wpList _ _ _ (Oper.mk (some 13) (Op.load _ _) _ _ _ _ :: _) _ _); refine wpl rfl ?_; refine owp_load1 hS 0 rfl rfl rfl Ha.out.2.1 ?_)
    | ((with_reducible show wpList _ _ _ (Oper.mk (some 15) (Op.load _ _) _ _ _ _ :: _) _ _); refine wpl rfl ?_; refine owp_load1 hS 1 rfl rfl rfl Hb.out.2.1 ?_)
    | ((with_reducible show wpList _ _ _ (Oper.mk (some 20) (Op.load _ _) _ _ _ _ :: _) _ _); refine wpl rfl ?_; refine owp_load1 hS 0 rfl rfl rfl Ha.out.2.2 ?_)
    | ((with_reducible show wpList _ _ _ (Oper.mk (some 23) (Op.load _ _) _ _ _ _ :: _) _ _); refine wpl rfl ?_; refine owp_load1 hS 1 rfl rfl rfl Hb.out.2.2 ?_)
    | ((with_reducible show wpList _ _ _ (Oper.mk (some 10) (Op.binOp _ _ _ _ _) _ _ _ _ :: _) _ _); refine wpl rfl ?_; refine owp_neqs rfl e_lsigR (by decide) gd_lsigR rfl rfl Hlike.out ?_))
  go_loopw [5] (fun i wr => ∃ k : Nat, k ≤ s.way.length ∧ i = .int .i64 k ∧ St w [] wr [some (ga, ca, 66), some (gb, cb, 66)]) (fun i _ => s.way.length - (intOf i).toNat)
  case atStart => exact ⟨0, Nat.zero_le _, rfl, hS⟩
  case round =>
    clear hS
    obtain ⟨k, hk, rfl, hS⟩ := hrel
    by_cases hlt : k < s.way.length
    · obtain ⟨g, off, rfl, hcs⟩ := Hu.out.cellsAll k hlt
      obtain ⟨g', off', rfl, hcs'⟩ := Hv.out.cellsAll k hlt
      rw [wayCells_drop s.way Hway.out k hlt] at hcs hcs'
      have Hcs := Lib.hid hcs
      have Hcs' := Lib.hid hcs'
      have hd32 := Hway.out _ (List.getElem_mem hlt)
      have Hd := Lib.hid (show (bs s.way[k]).length = 32 by rw [bs_length, hd32])
      have Hk := Lib.hid (like_bs' s.way[k] hd32)
      clear hcs hcs' hd32
      generalize s.way[k] = d at *
      have hi1 : (0 : Int) ≤ k := by omega
      have hi2 : (k : Int) < s.way.length := by omega
      go_wp2_with (first | ((with_reducible show wpList _ _ _ (Oper.mk _ (Op.load _ _) _ _ _ _ :: _) _ _); refine wpl rfl ?_; refine owp_load1 hS 0 rfl rfl rfl Ha.out.2.2 ?_))
      replace hS := hS.drew
      refine wp_region_held_drew (S := (fun w' => (w'.cell? ⟨ga, 1025, none⟩ = some (.slice (some ⟨g, off, none⟩) s.way.length c0) ∧ w'.cell? ⟨gb, 1025, none⟩ = some (.slice (some ⟨g', off', none⟩) s.way.length c1)) ∧ CellsAt w' ⟨g, off + k * 32, none⟩ (bs d) ∧ CellsAt w' ⟨g', off' + k * 32, none⟩ (bs d))) (by kernel_rfl) ⟨⟨(hS.get 0 rfl).cell 1025 Ha.out.2.2, (hS.get 1 rfl).cell 1025 Hb.out.2.2⟩, Hcs.out _ _ hS, Hcs'.out _ _ hS⟩ (fun hHeld => ?_)
      refine htake (i := 0) (v := (.pointer (some ⟨ga, 1025, none⟩))) rfl (by kernel_rfl) (by kernel_rfl) (by kernel_rfl) (fun _ _ _ h => h) (Or.inl ⟨by rfl, by (intro w hSw; (try dsimp only at hSw); (try obtain ⟨⟨h1, h2⟩, _, _⟩ := hSw); go_simp; try with_reducible rfl)⟩) (by assumption) ?_; simp only [Act.put, List.setIfInBounds_toArray, List.set_cons_succ, List.set_cons_zero]
      refine htake (i := 1) (v := (.slice (some ⟨g, off, none⟩) s.way.length c0)) rfl (by kernel_rfl) (by kernel_rfl) (by kernel_rfl) (fun _ _ _ h => h) (Or.inl ⟨by rfl, by (intro w hSw; (try dsimp only at hSw); (try obtain ⟨⟨h1, h2⟩, _, _⟩ := hSw); go_simp; try with_reducible rfl)⟩) (by assumption) ?_; simp only [Act.put, List.setIfInBounds_toArray, List.set_cons_succ, List.set_cons_zero]
      refine htake (i := 2) (v := (.int .i64 k)) rfl (by kernel_rfl) (by kernel_rfl) (by kernel_rfl) (fun _ _ _ h => h) (Or.inl ⟨by rfl, by (intro w hSw; (try dsimp only at hSw); (try obtain ⟨⟨h1, h2⟩, _, _⟩ := hSw); go_simp; try with_reducible rfl)⟩) (by assumption) ?_; simp only [Act.put, List.setIfInBounds_toArray, List.set_cons_succ, List.set_cons_zero]
      refine htake (i := 3) (v := (.pointer (some ⟨g, off + k * 32, none⟩))) rfl (by kernel_rfl) (by kernel_rfl) (by kernel_rfl) (fun _ _ _ h => h) (Or.inl ⟨by rfl, by (intro w hSw; (try dsimp only at hSw); (try obtain ⟨⟨h1, h2⟩, _, _⟩ := hSw); go_simp; try with_reducible rfl)⟩) (by assumption) ?_; simp only [Act.put, List.setIfInBounds_toArray, List.set_cons_succ, List.set_cons_zero]
      refine htake (i := 4) (v := (.agg (bs d).toArray)) rfl (by kernel_rfl) (by kernel_rfl) (by kernel_rfl) (fun _ _ _ h => h) (Or.inl ⟨by rfl, yl_loadR rfl rfl Hd.out (fun _ h => h.2.1)⟩) (by assumption) ?_; simp only [Act.put, List.setIfInBounds_toArray, List.set_cons_succ, List.set_cons_zero]
      refine htake (i := 5) (v := (.pointer (some ⟨gb, 1025, none⟩))) rfl (by kernel_rfl) (by kernel_rfl) (by kernel_rfl) (fun _ _ _ h => h) (Or.inl ⟨by rfl, by (intro w hSw; (try dsimp only at hSw); (try obtain ⟨⟨h1, h2⟩, _, _⟩ := hSw); go_simp; try with_reducible rfl)⟩) (by assumption) ?_; simp only [Act.put, List.setIfInBounds_toArray, List.set_cons_succ, List.set_cons_zero]
      refine htake (i := 6) (v := (.slice (some ⟨g', off', none⟩) s.way.length c1)) rfl (by kernel_rfl) (by kernel_rfl) (by kernel_rfl) (fun _ _ _ h => h) (Or.inl ⟨by rfl, by (intro w hSw; (try dsimp only at hSw); (try obtain ⟨⟨h1, h2⟩, _, _⟩ := hSw); go_simp; try with_reducible rfl)⟩) (by assumption) ?_; simp only [Act.put, List.setIfInBounds_toArray, List.set_cons_succ, List.set_cons_zero]
      refine htake (i := 7) (v := (.int .i64 k)) rfl (by kernel_rfl) (by kernel_rfl) (by kernel_rfl) (fun _ _ _ h => h) (Or.inl ⟨by rfl, by (intro w hSw; (try dsimp only at hSw); (try obtain ⟨⟨h1, h2⟩, _, _⟩ := hSw); go_simp; try with_reducible rfl)⟩) (by assumption) ?_; simp only [Act.put, List.setIfInBounds_toArray, List.set_cons_succ, List.set_cons_zero]
      refine htake (i := 8) (v := (.pointer (some ⟨g', off' + k * 32, none⟩))) rfl (by kernel_rfl) (by kernel_rfl) (by kernel_rfl) (fun _ _ _ h => h) (Or.inl ⟨by rfl, by (intro w hSw; (try dsimp only at hSw); (try obtain ⟨⟨h1, h2⟩, _, _⟩ := hSw); go_simp; try with_reducible rfl)⟩) (by assumption) ?_; simp only [Act.put, List.setIfInBounds_toArray, List.set_cons_succ, List.set_cons_zero]
      refine htake (i := 9) (v := (.agg (bs d).toArray)) rfl (by kernel_rfl) (by kernel_rfl) (by kernel_rfl) (fun _ _ _ h => h) (Or.inl ⟨by rfl, yl_loadR rfl rfl Hd.out (fun _ h => h.2.2)⟩) (by assumption) ?_; simp only [Act.put, List.setIfInBounds_toArray, List.set_cons_succ, List.set_cons_zero]
      refine htake (i := 10) (v := (.bool false)) rfl (by kernel_rfl) (by kernel_rfl) (by kernel_rfl) (fun _ _ _ h => h) (Or.inl ⟨by rfl, (fun _ _ => run_neq_same rfl e_arr32 (by decide) gd_arr32 rfl rfl Hk.out)⟩) (by assumption) ?_; simp only [Act.put, List.setIfInBounds_toArray, List.set_cons_succ, List.set_cons_zero]
      refine wpAnyH_done (by kernel_rfl) ?_ _
      clear hHeld
      go_wp2_with fail
      go_roundw
      case rel => exact ⟨k + 1, by omega, by go_num, hS⟩
      case measure => simp [intOf]; omega
    · have hkn : k = s.way.length := by omega
      subst hkn
      go_wp2_with (first | ((with_reducible show wpList _ _ _ (Oper.mk _ (Op.load _ _) _ _ _ _ :: _) _ _); refine wpl rfl ?_; refine owp_load1 hS 0 rfl rfl rfl Ha.out.2.2 ?_))
      go_ret
      exact ⟨rfl, hS.pick [] rfl (by decide)⟩

end Go.Proofs.Ytldmkafobbemjaa
namespace Go.Proofs.Ytldmkafobbemjaa
set_option linter.unusedSimpArgs false
set_option linter.unusedVariables false
open Go Go.RowKit
set_option maxRecDepth 100000
set_option maxHeartbeats 2000000

structure Memo.Parts (m : Memo) (tv wv : Value) (cs : List Value) : Prop where
  g0 : cs[0]? = some (.int .i64 m.kind)
  g1 : cs[1]? = some (.int .u32 m.channel)
  g2 : cs[2]? = some (.int .u64 m.round)
  gop : (cs.drop 3).take 39 = m.op.cells
  g42 : cs[42]? = some tv
  gs : (cs.drop 43).take 1026 = m.sig.cells wv
theorem Memo.parts (m : Memo) (h : m.Fit) (tv wv : Value) : m.Parts tv wv (m.cells tv wv) :=
  ⟨Memo.g0 _ _ _, Memo.g1 _ _ _, Memo.g2 _ _ _, Memo.gop h _ _, Memo.g42 h _ _, Memo.gs h _ _⟩

end Go.Proofs.Ytldmkafobbemjaa
namespace Go.Proofs.Ytldmkafobbemjaa
set_option linter.unusedSimpArgs false
set_option linter.unusedVariables false
open Go Go.RowKit
set_option maxRecDepth 100000
set_option maxHeartbeats 2000000

theorem times_all {α : Type} (f : PS → α × PS) : ∀ (n : Nat) (s : PS) (x : α), x ∈ (times f n s).1 → ∃ s', x = (f s').1
  | 0, s, x, h => by rw [times_zero] at h; cases h
  | n + 1, s, x, h => by
    rw [times_succ] at h
    rcases List.mem_append.1 h with h | h
    · exact times_all f n s x h
    · simp only [List.mem_singleton] at h
      exact ⟨_, h⟩

theorem takeHop_ok (s : PS) : (takeHop s).1.Ok := by
  have h1 := num4_lt s
  have h2 := num8_lt (s.num 4).2
  have h3 := num8_lt ((s.num 4).2.num 8).2
  simp only [takeHop, Hop.Ok]
  exact ⟨by omega, by omega, by omega⟩
theorem takeTrail_hops (s : PS) : ∀ h, h ∈ (takeTrail s).1 → h.Ok := by
  intro h hh
  simp only [takeTrail] at hh
  split at hh
  · cases hh
  · obtain ⟨s', rfl⟩ := times_all _ _ _ _ hh
    exact takeHop_ok s'
theorem takeTrail_le (s : PS) : (takeTrail s).1.length ≤ 7 := by
  simp only [takeTrail]
  split
  · simp
  · rw [times_len]; exact many_le 7 s
theorem takeSig_way (s : PS) : (∀ d, d ∈ (takeSig s).1.way → d.length = 32) ∧ (takeSig s).1.way.length ≤ 8 := by
  simp only [takeSig]
  split
  · exact ⟨fun d h => (by cases h), by simp [Sig.zero]⟩
  · refine ⟨fun d h => ?_, ?_⟩
    · obtain ⟨s', rfl⟩ := times_all _ _ _ _ h
      exact sum_len s'
    · simp only [times_len]; exact many_le 8 _
theorem takeSig_fit (s : PS) : (takeSig s).1.Fit := ⟨(takeSig_lens s).1, (takeSig_lens s).2, (takeSig_way s).1⟩
theorem Sig.zero_fit : Sig.zero.Fit := ⟨zb_length 512, zb_length 512, fun _ h => (by cases h)⟩

structure Memo.Small (m : Memo) : Prop where
  full : m.Full
  trail : m.trail.length ≤ 7
  way : m.sig.way.length ≤ 8
theorem small_zero {k : Int} {c : Nat} : (Memo.mk k c 0 Oop.zero [] Sig.zero).Small := ⟨⟨Memo.Fit.zero', Sig.zero_fit⟩, by simp, by simp [Sig.zero]⟩
theorem readBody_small (k ch : Nat) (s : PS) : (readBody k ch s).1.Small := by
  by_cases h0 : k = 0
  · subst h0; rw [readBody0]; exact small_zero
  · by_cases h1 : k = 1
    · subst h1; rw [readBody1]
      exact ⟨⟨⟨takeOp_hash _, (takeSig_lens _).1, (takeSig_lens _).2⟩, takeSig_fit _⟩, takeTrail_le _, (takeSig_way _).2⟩
    · by_cases h2 : k = 2
      · subst h2; rw [readBody2]
        exact ⟨⟨⟨zb_length 32, (takeSig_lens _).1, (takeSig_lens _).2⟩, takeSig_fit _⟩, by simp, (takeSig_way _).2⟩
      · rw [readBody3 k ch s h0 h1 h2]; exact small_zero
theorem readMemo_small (l : List UInt8) : (readMemo l).1.Small := by
  have key : ∀ (s : PS) (m : Memo), m.Small → (if s.fin.bad ≠ 0 then (Memo.zero, s.fin.bad) else (m, (0 : Int))).1.Small := by
    intro s m h
    split
    · exact small_zero
    · exact h
  exact key _ _ (readBody_small _ _ _)

end Go.Proofs.Ytldmkafobbemjaa
namespace Go.Proofs.Ytldmkafobbemjaa
set_option linter.unusedSimpArgs false
set_option linter.unusedVariables false
open Go Go.RowKit
set_option maxRecDepth 100000
set_option maxHeartbeats 1000000

structure State where
  channel : Nat
  round : Nat
  m0 : Nat
  m1 : Nat
  t0 : Nat
  t1 : Nat
  conds : List Cond
def State.cells (s : State) (cv : Value) : List Value := [.int .u32 s.channel, .int .u64 s.round, .int .u64 s.m0, .int .u64 s.m1, .int .u64 s.t0, .int .u64 s.t1, cv]
def State.zero : State := ⟨0, 0, 0, 0, 0, 0, []⟩
def condCells (l : List Cond) : List Value := l.flatMap Cond.cells
structure Deed where
  s : State
  a : Sig
  b : Sig
def Deed.cells (d : Deed) (cv av bv : Value) : List Value := d.s.cells cv ++ d.a.cells av ++ d.b.cells bv
def Deed.zero : Deed := ⟨State.zero, Sig.zero, Sig.zero⟩

def takeState (s : PS) : State × PS :=
  let ch := s.num 4
  let r := ch.2.num 8
  let m0 := r.2.num 8
  let m1 := m0.2.num 8
  let t0 := m1.2.num 8
  let t1 := t0.2.num 8
  let n := t1.2.many 8
  let l := times takeCond n.1 n.2
  (if l.2.bad ≠ 0 then State.zero else ⟨ch.1, r.1, m0.1, m1.1, t0.1, t1.1, l.1⟩, l.2)

/-- The deed that bytes are, and the error; where there is one, the deed is nothing. -/
def readDeed (l : List UInt8) : Deed × Int :=
  let st := takeState ⟨l, 0⟩
  let d : Deed × PS :=
    if 0 < st.1.round then
      let a := takeSig st.2
      let b := takeSig a.2
      (⟨st.1, a.1, b.1⟩, b.2)
    else (⟨st.1, Sig.zero, Sig.zero⟩, st.2)
  if d.2.fin.bad ≠ 0 then (Deed.zero, d.2.fin.bad) else (d.1, 0)

theorem condCells_snoc (l : List Cond) (c : Cond) : condCells (l ++ [c]) = condCells l ++ c.cells := by simp [condCells]
theorem condCells_drop : ∀ (l : List Cond) (_ : ∀ c, c ∈ l → c.hash.length = 32) (k : Nat) (h : k < l.length), ((condCells l).drop (k * 36)).take 36 = l[k].cells
  | [], _, k, h => by simp at h
  | x :: l, hl, 0, h => by
    have hx := Cond.len x (hl x (by simp))
    simp [condCells, List.take_append, hx]
  | x :: l, hl, k + 1, h => by
    have hx := Cond.len x (hl x (by simp))
    have h2 : k < l.length := by simpa using h
    have h5 : x.cells.drop ((k + 1) * 36) = [] := List.drop_eq_nil_of_le (by omega)
    have h3 : condCells (x :: l) = x.cells ++ condCells l := by simp [condCells]
    rw [h3, List.drop_append, h5, List.nil_append, show (k + 1) * 36 - x.cells.length = k * 36 by omega, condCells_drop l (fun c hc => hl c (by simp [hc])) k h2]
    simp

end Go.Proofs.Ytldmkafobbemjaa
