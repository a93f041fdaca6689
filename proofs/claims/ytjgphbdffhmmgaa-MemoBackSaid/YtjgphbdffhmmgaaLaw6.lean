/-
  The document's comparison says true of two ring's signatures that are alike.
-/
import Derived.Test.YtjgphbdffhmmgaaLaw4
namespace Go.Proofs.Ytjgphbdffhmmgaa
set_option linter.unusedSimpArgs false
set_option linter.unusedVariables false
open Go Go.RowKit
set_option maxRecDepth 100000
set_option maxHeartbeats 2000000

theorem run_neq_same {P : Program} {a : Act} {w : World} {o : Oper} {t ty : TypeId} {x y : Operand} (ho : o.op = .binOp .neq t x y ty) {ks : List IntKind} {d : Nat}
    (he : ETy P t true ks d) (hd : d ≤ 10000) (hg : P.eqGuardType P.depth t = false) {cs : List Value} (hx : a.eval x = .agg cs.toArray) (hy : a.eval y = .agg cs.toArray) (hl : LikeK ks cs) :
    (execOp a.eval o).run P w = .ok (.value (.bool false)) w := by
  obtain ⟨r, hr, hiff⟩ := he.eq 10000 hd w cs cs hl hl
  have hrb : r = true := by simpa using hiff
  subst hrb
  simp only [valT, if_true] at hr
  unfold execOp
  simp only [ho, hx, hy, Sem.run_bind, run_eqGuard_agg w .neq t x y cs.toArray cs.toArray hg, Result.andThen_ok, run_neq_struct, hr, Sem.run_pure]
  rfl

theorem owp_neqs {P : Program} {Q : Exit → Act → World → Prop} {K : Act → World → Prop} {a : Act} {w : World} {o : Oper} {t ty : TypeId} {x y : Operand} (ho : o.op = .binOp .neq t x y ty) {ks : List IntKind} {d : Nat}
    (he : ETy P t true ks d) (hd : d ≤ 10000) (hg : P.eqGuardType P.depth t = false) {cs : List Value} (hx : a.eval x = .agg cs.toArray) (hy : a.eval y = .agg cs.toArray) (hl : LikeK ks cs)
    (hk : K (a.put o.dst (.bool false)) w) : o.wp P a w K Q := owp_val (run_neq_same ho he hd hg hx hy hl) hk

theorem gd_arr32 : Try.prog.eqGuardType Try.prog.depth 27 = false := by kernel_rfl

theorem Sig.parts (s : Sig) (hl : s.l.cells.length = 1024) (v : Value) : ((s.cells v).drop 0).take 1024 = s.l.cells ∧ (s.cells v)[1024]? = some (.int .u32 s.key) ∧ (s.cells v)[1025]? = some v := by
  refine ⟨?_, ?_, Sig.get_way _ _ hl⟩
  · show ((s.l.cells ++ [Value.int .u32 s.key, v]).drop 0).take 1024 = _
    rw [List.drop_zero, List.take_left' hl]
  · show (s.l.cells ++ [Value.int .u32 s.key, v])[1024]? = _
    rw [List.getElem?_append_right (Nat.le_of_eq hl), hl]; rfl

def TruePost (w : World) (e : Ending) (w' : World) : Prop := e = .returned (.bool true) ∧ St w [] w' []

theorem sigSame_ok (s : Sig) (hf : s.Fit) (u v : Value) (w : World) (hu : RowR w 32 u s.way.length (wayCells s.way)) (hv : RowR w 32 v s.way.length (wayCells s.way)) (hle : s.way.length ≤ 1000) :
    Calls Try.prog 34 #[.agg (s.cells u).toArray, .agg (s.cells v).toArray] w (TruePost w) := by
  have hS := St.nil w
  obtain ⟨a0, c0, rfl⟩ := hu.isSl
  obtain ⟨a1, c1, rfl⟩ := hv.isSl
  have hll := LSig.len s.l hf.shown hf.other
  have Hll := Lib.hid hll
  have Hlike := Lib.hid (LSig.like s.l hf.shown hf.other)
  have Hway := Lib.hid hf.way
  have Hu := Lib.hid hu
  have Hv := Lib.hid hv
  have Ha := Lib.hid (Sig.parts s hll (.slice a0 s.way.length c0))
  have Hb := Lib.hid (Sig.parts s hll (.slice a1 s.way.length c1))
  clear hu hv hf hll
  generalize s.cells (.slice a0 s.way.length c0) = ca at *
  generalize s.cells (.slice a1 s.way.length c1) = cb at *
  go_enter Try.func34, Try.ntmps34
  go_wp2_with (first
    | ((with_reducible show wpList _ _ _ (Oper.mk (some 2) (Op.box _ _) _ _ _ _ :: _) _ _); refine wpl rfl ?_; refine owp_box hS rfl (vs := ca) rfl ?_; clear hS; intro ga _ hS; try simp only [List.cons_append, List.nil_append, List.append_nil, List.set_cons_zero, List.set_cons_succ] at hS)
    | ((with_reducible show wpList _ _ _ (Oper.mk (some 3) (Op.box _ _) _ _ _ _ :: _) _ _); refine wpl rfl ?_; refine owp_box hS rfl (vs := cb) rfl ?_; clear hS; intro gb _ hS; try simp only [List.cons_append, List.nil_append, List.append_nil, List.set_cons_zero, List.set_cons_succ] at hS)
    | ((with_reducible show wpList _ _ _ (Oper.mk (some 7) (Op.load _ _) _ _ _ _ :: _) _ _); refine wpl rfl ?_; refine owp_load hS 0 rfl rfl rfl Ha.out.1 Hll.out ?_)
    | ((with_reducible show wpList _ _ _ (Oper.mk (some 9) (Op.load _ _) _ _ _ _ :: _) _ _); refine wpl rfl ?_; refine owp_load hS 1 rfl rfl rfl Hb.out.1 Hll.out ?_)
    | ((with_reducible show wpList _ _ _ (Oper.mk (some 13) (Op.load _ _) _ _ _ _ :: _) _ _); refine wpl rfl ?_; refine owp_load1 hS 0 rfl rfl rfl Ha.out.2.1 ?_)
    | ((with_reducible show wpList _ _ _ (Oper.mk (some 15) (Op.load _ _) _ _ _ _ :: _) _ _); refine wpl rfl ?_; refine owp_load1 hS 1 rfl rfl rfl Hb.out.2.1 ?_)
    | ((with_reducible show wpList _ _ _ (Oper.mk (some 20) (Op.load _ _) _ _ _ _ :: _) _ _); refine wpl rfl ?_; refine owp_load1 hS 0 rfl rfl rfl Ha.out.2.2 ?_)
    | ((with_reducible show wpList _ _ _ (Oper.mk (some 23) (Op.load _ _) _ _ _ _ :: _) _ _); refine wpl rfl ?_; refine owp_load1 hS 1 rfl rfl rfl Hb.out.2.2 ?_)
    | ((with_reducible show wpList _ _ _ (Oper.mk (some 10) (Op.binOp _ _ _ _ _) _ _ _ _ :: _) _ _); refine wpl rfl ?_; refine owp_neqs rfl e_lsigR (by decide) gd_lsigR rfl rfl Hlike.out ?_))
  go_loopw [5] (fun i wr => ∃ k : Nat, k ≤ s.way.length ∧ i = .int .i64 k ∧ St w [] wr [some (ga, ca, 58), some (gb, cb, 58)]) (fun i _ => s.way.length - (intOf i).toNat)
  case atStart => exact ⟨0, Nat.zero_le _, rfl, hS⟩
  case round =>
    clear hS
    obtain ⟨k, hk, rfl, hS⟩ := hrel
    by_cases hlt : k < s.way.length
    · obtain ⟨g, off, rfl, hcs⟩ := Hu.out.cellsAll k hlt
      obtain ⟨g', off', rfl, hcs'⟩ := Hv.out.cellsAll k hlt
      rw [wayCells_drop s.way Hway.out k hlt] at hcs hcs'
      have Hcs := Lib.hid hcs
      have Hcs' := Lib.hid hcs'
      have hd32 := Hway.out _ (List.getElem_mem hlt)
      have Hd := Lib.hid (show (bs s.way[k]).length = 32 by rw [bs_length, hd32])
      have Hk := Lib.hid (like_bs' s.way[k] hd32)
      clear hcs hcs' hd32
      generalize s.way[k] = d at *
      have hi1 : (0 : Int) ≤ k := by omega
      have hi2 : (k : Int) < s.way.length := by omega
      go_wp2_with (first | ((with_reducible show wpList _ _ _ (Oper.mk _ (Op.load _ _) _ _ _ _ :: _) _ _); refine wpl rfl ?_; refine owp_load1 hS 0 rfl rfl rfl Ha.out.2.2 ?_))
      replace hS := hS.drew
      refine wp_region_held_drew (S := (fun w' => (w'.cell? ⟨ga, 1025, none⟩ = some (.slice (some ⟨g, off, none⟩) s.way.length c0) ∧ w'.cell? ⟨gb, 1025, none⟩ = some (.slice (some ⟨g', off', none⟩) s.way.length c1)) ∧ CellsAt w' ⟨g, off + k * 32, none⟩ (bs d) ∧ CellsAt w' ⟨g', off' + k * 32, none⟩ (bs d))) (by kernel_rfl) ⟨⟨(hS.get 0 rfl).cell 1025 Ha.out.2.2, (hS.get 1 rfl).cell 1025 Hb.out.2.2⟩, Hcs.out _ _ hS, Hcs'.out _ _ hS⟩ (fun hHeld => ?_)
      refine htake (i := 0) (v := (.pointer (some ⟨ga, 1025, none⟩))) rfl (by kernel_rfl) (by kernel_rfl) (by kernel_rfl) (fun _ _ _ h => h) (Or.inl ⟨by rfl, by (intro w hSw; (try dsimp only at hSw); (try obtain ⟨⟨h1, h2⟩, _, _⟩ := hSw); go_simp; try with_reducible rfl)⟩) (by assumption) ?_; simp only [Act.put, List.setIfInBounds_toArray, List.set_cons_succ, List.set_cons_zero]
      refine htake (i := 1) (v := (.slice (some ⟨g, off, none⟩) s.way.length c0)) rfl (by kernel_rfl) (by kernel_rfl) (by kernel_rfl) (fun _ _ _ h => h) (Or.inl ⟨by rfl, by (intro w hSw; (try dsimp only at hSw); (try obtain ⟨⟨h1, h2⟩, _, _⟩ := hSw); go_simp; try with_reducible rfl)⟩) (by assumption) ?_; simp only [Act.put, List.setIfInBounds_toArray, List.set_cons_succ, List.set_cons_zero]
      refine htake (i := 2) (v := (.int .i64 k)) rfl (by kernel_rfl) (by kernel_rfl) (by kernel_rfl) (fun _ _ _ h => h) (Or.inl ⟨by rfl, by (intro w hSw; (try dsimp only at hSw); (try obtain ⟨⟨h1, h2⟩, _, _⟩ := hSw); go_simp; try with_reducible rfl)⟩) (by assumption) ?_; simp only [Act.put, List.setIfInBounds_toArray, List.set_cons_succ, List.set_cons_zero]
      refine htake (i := 3) (v := (.pointer (some ⟨g, off + k * 32, none⟩))) rfl (by kernel_rfl) (by kernel_rfl) (by kernel_rfl) (fun _ _ _ h => h) (Or.inl ⟨by rfl, by (intro w hSw; (try dsimp only at hSw); (try obtain ⟨⟨h1, h2⟩, _, _⟩ := hSw); go_simp; try with_reducible rfl)⟩) (by assumption) ?_; simp only [Act.put, List.setIfInBounds_toArray, List.set_cons_succ, List.set_cons_zero]
      refine htake (i := 4) (v := (.agg (bs d).toArray)) rfl (by kernel_rfl) (by kernel_rfl) (by kernel_rfl) (fun _ _ _ h => h) (Or.inl ⟨by rfl, yl_loadR rfl rfl Hd.out (fun _ h => h.2.1)⟩) (by assumption) ?_; simp only [Act.put, List.setIfInBounds_toArray, List.set_cons_succ, List.set_cons_zero]
      refine htake (i := 5) (v := (.pointer (some ⟨gb, 1025, none⟩))) rfl (by kernel_rfl) (by kernel_rfl) (by kernel_rfl) (fun _ _ _ h => h) (Or.inl ⟨by rfl, by (intro w hSw; (try dsimp only at hSw); (try obtain ⟨⟨h1, h2⟩, _, _⟩ := hSw); go_simp; try with_reducible rfl)⟩) (by assumption) ?_; simp only [Act.put, List.setIfInBounds_toArray, List.set_cons_succ, List.set_cons_zero]
      refine htake (i := 6) (v := (.slice (some ⟨g', off', none⟩) s.way.length c1)) rfl (by kernel_rfl) (by kernel_rfl) (by kernel_rfl) (fun _ _ _ h => h) (Or.inl ⟨by rfl, by (intro w hSw; (try dsimp only at hSw); (try obtain ⟨⟨h1, h2⟩, _, _⟩ := hSw); go_simp; try with_reducible rfl)⟩) (by assumption) ?_; simp only [Act.put, List.setIfInBounds_toArray, List.set_cons_succ, List.set_cons_zero]
      refine htake (i := 7) (v := (.int .i64 k)) rfl (by kernel_rfl) (by kernel_rfl) (by kernel_rfl) (fun _ _ _ h => h) (Or.inl ⟨by rfl, by (intro w hSw; (try dsimp only at hSw); (try obtain ⟨⟨h1, h2⟩, _, _⟩ := hSw); go_simp; try with_reducible rfl)⟩) (by assumption) ?_; simp only [Act.put, List.setIfInBounds_toArray, List.set_cons_succ, List.set_cons_zero]
      refine htake (i := 8) (v := (.pointer (some ⟨g', off' + k * 32, none⟩))) rfl (by kernel_rfl) (by kernel_rfl) (by kernel_rfl) (fun _ _ _ h => h) (Or.inl ⟨by rfl, by (intro w hSw; (try dsimp only at hSw); (try obtain ⟨⟨h1, h2⟩, _, _⟩ := hSw); go_simp; try with_reducible rfl)⟩) (by assumption) ?_; simp only [Act.put, List.setIfInBounds_toArray, List.set_cons_succ, List.set_cons_zero]
      refine htake (i := 9) (v := (.agg (bs d).toArray)) rfl (by kernel_rfl) (by kernel_rfl) (by kernel_rfl) (fun _ _ _ h => h) (Or.inl ⟨by rfl, yl_loadR rfl rfl Hd.out (fun _ h => h.2.2)⟩) (by assumption) ?_; simp only [Act.put, List.setIfInBounds_toArray, List.set_cons_succ, List.set_cons_zero]
      refine htake (i := 10) (v := (.bool false)) rfl (by kernel_rfl) (by kernel_rfl) (by kernel_rfl) (fun _ _ _ h => h) (Or.inl ⟨by rfl, (fun _ _ => run_neq_same rfl e_arr32 (by decide) gd_arr32 rfl rfl Hk.out)⟩) (by assumption) ?_; simp only [Act.put, List.setIfInBounds_toArray, List.set_cons_succ, List.set_cons_zero]
      refine wpAnyH_done (by kernel_rfl) ?_ _
      clear hHeld
      go_wp2_with fail
      go_roundw
      case rel => exact ⟨k + 1, by omega, by go_num, hS⟩
      case measure => simp [intOf]; omega
    · have hkn : k = s.way.length := by omega
      subst hkn
      go_wp2_with (first | ((with_reducible show wpList _ _ _ (Oper.mk _ (Op.load _ _) _ _ _ _ :: _) _ _); refine wpl rfl ?_; refine owp_load1 hS 0 rfl rfl rfl Ha.out.2.2 ?_))
      go_ret
      exact ⟨rfl, hS.pick [] rfl (by decide)⟩

end Go.Proofs.Ytjgphbdffhmmgaa
