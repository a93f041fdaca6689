/-
  The document's comparison says true of two memos that are alike.
-/
import Derived.Test.YtjgphbdffhmmgaaLaw5
import Derived.Test.YtjgphbdffhmmgaaLaw6
namespace Go.Proofs.Ytjgphbdffhmmgaa
set_option linter.unusedSimpArgs false
set_option linter.unusedVariables false
open Go Go.RowKit
set_option maxRecDepth 100000
set_option maxHeartbeats 2000000

theorem gd_hopR : Try.prog.eqGuardType Try.prog.depth 97 = false := by kernel_rfl

structure Memo.Parts (m : Memo) (tv wv : Value) (cs : List Value) : Prop where
  g0 : cs[0]? = some (.int .i64 m.kind)
  g1 : cs[1]? = some (.int .u32 m.channel)
  g2 : cs[2]? = some (.int .u64 m.round)
  gop : (cs.drop 3).take 39 = m.op.cells
  g42 : cs[42]? = some tv
  gs : (cs.drop 43).take 1026 = m.sig.cells wv
theorem Memo.parts (m : Memo) (h : m.Fit) (tv wv : Value) : m.Parts tv wv (m.cells tv wv) :=
  ⟨Memo.g0 _ _ _, Memo.g1 _ _ _, Memo.g2 _ _ _, Memo.gop h _ _, Memo.g42 h _ _, Memo.gs h _ _⟩

theorem memoSame_ok (m : Memo) (hf : m.Full) (t u t' u' : Value) (w : World) (ht : RowR w 3 t m.trail.length (hopCells m.trail)) (ht' : RowR w 3 t' m.trail.length (hopCells m.trail))
    (hu : RowR w 32 u m.sig.way.length (wayCells m.sig.way)) (hu' : RowR w 32 u' m.sig.way.length (wayCells m.sig.way)) (hle : m.trail.length ≤ 1000) (hle2 : m.sig.way.length ≤ 1000) :
    Calls Try.prog 11 #[.agg (m.cells t u).toArray, .agg (m.cells t' u').toArray] w (TruePost w) := by
  have hS := St.nil w
  obtain ⟨a0, c0, rfl⟩ := ht.isSl
  obtain ⟨a1, c1, rfl⟩ := ht'.isSl
  have Hol := Lib.hid (show m.op.cells.length = 39 from hf.fit.op)
  have Hsl := Lib.hid (fun (v : Value) => show (m.sig.cells v).length = 1026 from Sig.len _ _ hf.fit.l)
  have Hlike := Lib.hid (Oop.like m.op hf.fit.hash)
  have Ht := Lib.hid ht
  have Ht' := Lib.hid ht'
  have Hu := Lib.hid hu
  have Hu' := Lib.hid hu'
  have Hsame := Lib.hid (fun (w' : World) (h : RowR w' 32 u m.sig.way.length (wayCells m.sig.way)) (h' : RowR w' 32 u' m.sig.way.length (wayCells m.sig.way)) => sigSame_ok m.sig hf.sig u u' w' h h' hle2)
  have Ha := Lib.hid (Memo.parts m hf.fit (.slice a0 m.trail.length c0) u)
  have Hb := Lib.hid (Memo.parts m hf.fit (.slice a1 m.trail.length c1) u')
  clear ht ht' hu hu' hf
  generalize m.cells (.slice a0 m.trail.length c0) u = ca at *
  generalize m.cells (.slice a1 m.trail.length c1) u' = cb at *
  go_enter Try.func11, Try.ntmps11
  go_wp2_with (first
    | ((with_reducible show wpList _ _ _ (Oper.mk (some 2) (Op.box _ _) _ _ _ _ :: _) _ _); refine wpl rfl ?_; refine owp_box hS rfl (vs := ca) rfl ?_; clear hS; intro ga _ hS; try simp only [List.cons_append, List.nil_append, List.append_nil, List.set_cons_zero, List.set_cons_succ] at hS)
    | ((with_reducible show wpList _ _ _ (Oper.mk (some 3) (Op.box _ _) _ _ _ _ :: _) _ _); refine wpl rfl ?_; refine owp_box hS rfl (vs := cb) rfl ?_; clear hS; intro gb _ hS; try simp only [List.cons_append, List.nil_append, List.append_nil, List.set_cons_zero, List.set_cons_succ] at hS)
    | ((with_reducible show wpList _ _ _ (Oper.mk (some 7) (Op.load _ _) _ _ _ _ :: _) _ _); refine wpl rfl ?_; refine owp_load1 hS 0 rfl rfl rfl Ha.out.g0 ?_)
    | ((with_reducible show wpList _ _ _ (Oper.mk (some 9) (Op.load _ _) _ _ _ _ :: _) _ _); refine wpl rfl ?_; refine owp_load1 hS 1 rfl rfl rfl Hb.out.g0 ?_)
    | ((with_reducible show wpList _ _ _ (Oper.mk (some 13) (Op.load _ _) _ _ _ _ :: _) _ _); refine wpl rfl ?_; refine owp_load1 hS 0 rfl rfl rfl Ha.out.g1 ?_)
    | ((with_reducible show wpList _ _ _ (Oper.mk (some 15) (Op.load _ _) _ _ _ _ :: _) _ _); refine wpl rfl ?_; refine owp_load1 hS 1 rfl rfl rfl Hb.out.g1 ?_)
    | ((with_reducible show wpList _ _ _ (Oper.mk (some 20) (Op.load _ _) _ _ _ _ :: _) _ _); refine wpl rfl ?_; refine owp_load1 hS 0 rfl rfl rfl Ha.out.g2 ?_)
    | ((with_reducible show wpList _ _ _ (Oper.mk (some 22) (Op.load _ _) _ _ _ _ :: _) _ _); refine wpl rfl ?_; refine owp_load1 hS 1 rfl rfl rfl Hb.out.g2 ?_)
    | ((with_reducible show wpList _ _ _ (Oper.mk (some 27) (Op.load _ _) _ _ _ _ :: _) _ _); refine wpl rfl ?_; refine owp_load hS 0 rfl rfl rfl Ha.out.gop Hol.out ?_)
    | ((with_reducible show wpList _ _ _ (Oper.mk (some 29) (Op.load _ _) _ _ _ _ :: _) _ _); refine wpl rfl ?_; refine owp_load hS 1 rfl rfl rfl Hb.out.gop Hol.out ?_)
    | ((with_reducible show wpList _ _ _ (Oper.mk (some 34) (Op.load _ _) _ _ _ _ :: _) _ _); refine wpl rfl ?_; refine owp_load hS 0 rfl rfl rfl Ha.out.gs (Hsl.out _) ?_)
    | ((with_reducible show wpList _ _ _ (Oper.mk (some 36) (Op.load _ _) _ _ _ _ :: _) _ _); refine wpl rfl ?_; refine owp_load hS 1 rfl rfl rfl Hb.out.gs (Hsl.out _) ?_)
    | ((with_reducible show wpList _ _ _ (Oper.mk (some 30) (Op.binOp _ _ _ _ _) _ _ _ _ :: _) _ _); refine wpl rfl ?_; refine owp_neqs rfl e_opR (by decide) gd_opR rfl rfl Hlike.out ?_))
  refine (Hsame.out _ (Hu.out.st0 hS) (Hu'.out.st0 hS)).mono ?_
  rintro e w2 ⟨rfl, hc⟩
  replace hS := hS.call0 hc
  try simp only [List.cons_append, List.nil_append, List.append_nil, List.set_cons_zero, List.set_cons_succ] at hS
  clear hc
  go_wp2_with (first
    | ((with_reducible show wpList _ _ _ (Oper.mk (some 42) (Op.load _ _) _ _ _ _ :: _) _ _); refine wpl rfl ?_; refine owp_load1 hS 0 rfl rfl rfl Ha.out.g42 ?_)
    | ((with_reducible show wpList _ _ _ (Oper.mk (some 45) (Op.load _ _) _ _ _ _ :: _) _ _); refine wpl rfl ?_; refine owp_load1 hS 1 rfl rfl rfl Hb.out.g42 ?_))
  go_loopw [5] (fun i wr => ∃ k : Nat, k ≤ m.trail.length ∧ i = .int .i64 k ∧ St w [] wr [some (ga, ca, 60), some (gb, cb, 60)]) (fun i _ => m.trail.length - (intOf i).toNat)
  case atStart => exact ⟨0, Nat.zero_le _, rfl, hS⟩
  case round =>
    clear hS
    obtain ⟨k, hk, rfl, hS⟩ := hrel
    by_cases hlt : k < m.trail.length
    · obtain ⟨g, off, rfl, hcs⟩ := Ht.out.cellsAll k hlt
      obtain ⟨g', off', rfl, hcs'⟩ := Ht'.out.cellsAll k hlt
      rw [hopCells_drop m.trail k hlt] at hcs hcs'
      have Hcs := Lib.hid hcs
      have Hcs' := Lib.hid hcs'
      have Hk := Lib.hid (Hop.like m.trail[k])
      clear hcs hcs'
      generalize m.trail[k] = d at *
      have hi1 : (0 : Int) ≤ k := by omega
      have hi2 : (k : Int) < m.trail.length := by omega
      go_wp2_with (first | ((with_reducible show wpList _ _ _ (Oper.mk _ (Op.load _ _) _ _ _ _ :: _) _ _); refine wpl rfl ?_; refine owp_load1 hS 0 rfl rfl rfl Ha.out.g42 ?_))
      replace hS := hS.drew
      refine wp_region_held_drew (S := (fun w' => (w'.cell? ⟨ga, 42, none⟩ = some (.slice (some ⟨g, off, none⟩) m.trail.length c0) ∧ w'.cell? ⟨gb, 42, none⟩ = some (.slice (some ⟨g', off', none⟩) m.trail.length c1)) ∧ CellsAt w' ⟨g, off + k * 3, none⟩ d.cells ∧ CellsAt w' ⟨g', off' + k * 3, none⟩ d.cells)) (by kernel_rfl) ⟨⟨(hS.get 0 rfl).cell 42 Ha.out.g42, (hS.get 1 rfl).cell 42 Hb.out.g42⟩, Hcs.out _ _ hS, Hcs'.out _ _ hS⟩ (fun hHeld => ?_)
      refine htake (i := 0) (v := (.pointer (some ⟨ga, 42, none⟩))) rfl (by kernel_rfl) (by kernel_rfl) (by kernel_rfl) (fun _ _ _ h => h) (Or.inl ⟨by rfl, by (intro w hSw; (try dsimp only at hSw); (try obtain ⟨⟨h1, h2⟩, _, _⟩ := hSw); go_simp; try with_reducible rfl)⟩) (by assumption) ?_; simp only [Act.put, List.setIfInBounds_toArray, List.set_cons_succ, List.set_cons_zero]
      refine htake (i := 1) (v := (.slice (some ⟨g, off, none⟩) m.trail.length c0)) rfl (by kernel_rfl) (by kernel_rfl) (by kernel_rfl) (fun _ _ _ h => h) (Or.inl ⟨by rfl, by (intro w hSw; (try dsimp only at hSw); (try obtain ⟨⟨h1, h2⟩, _, _⟩ := hSw); go_simp; try with_reducible rfl)⟩) (by assumption) ?_; simp only [Act.put, List.setIfInBounds_toArray, List.set_cons_succ, List.set_cons_zero]
      refine htake (i := 2) (v := (.int .i64 k)) rfl (by kernel_rfl) (by kernel_rfl) (by kernel_rfl) (fun _ _ _ h => h) (Or.inl ⟨by rfl, by (intro w hSw; (try dsimp only at hSw); (try obtain ⟨⟨h1, h2⟩, _, _⟩ := hSw); go_simp; try with_reducible rfl)⟩) (by assumption) ?_; simp only [Act.put, List.setIfInBounds_toArray, List.set_cons_succ, List.set_cons_zero]
      refine htake (i := 3) (v := (.pointer (some ⟨g, off + k * 3, none⟩))) rfl (by kernel_rfl) (by kernel_rfl) (by kernel_rfl) (fun _ _ _ h => h) (Or.inl ⟨by rfl, by (intro w hSw; (try dsimp only at hSw); (try obtain ⟨⟨h1, h2⟩, _, _⟩ := hSw); go_simp; try with_reducible rfl)⟩) (by assumption) ?_; simp only [Act.put, List.setIfInBounds_toArray, List.set_cons_succ, List.set_cons_zero]
      refine htake (i := 4) (v := (.agg d.cells.toArray)) rfl (by kernel_rfl) (by kernel_rfl) (by kernel_rfl) (fun _ _ _ h => h) (Or.inl ⟨by rfl, yl_loadR rfl rfl (by rfl) (fun _ h => h.2.1)⟩) (by assumption) ?_; simp only [Act.put, List.setIfInBounds_toArray, List.set_cons_succ, List.set_cons_zero]
      refine htake (i := 5) (v := (.pointer (some ⟨gb, 42, none⟩))) rfl (by kernel_rfl) (by kernel_rfl) (by kernel_rfl) (fun _ _ _ h => h) (Or.inl ⟨by rfl, by (intro w hSw; (try dsimp only at hSw); (try obtain ⟨⟨h1, h2⟩, _, _⟩ := hSw); go_simp; try with_reducible rfl)⟩) (by assumption) ?_; simp only [Act.put, List.setIfInBounds_toArray, List.set_cons_succ, List.set_cons_zero]
      refine htake (i := 6) (v := (.slice (some ⟨g', off', none⟩) m.trail.length c1)) rfl (by kernel_rfl) (by kernel_rfl) (by kernel_rfl) (fun _ _ _ h => h) (Or.inl ⟨by rfl, by (intro w hSw; (try dsimp only at hSw); (try obtain ⟨⟨h1, h2⟩, _, _⟩ := hSw); go_simp; try with_reducible rfl)⟩) (by assumption) ?_; simp only [Act.put, List.setIfInBounds_toArray, List.set_cons_succ, List.set_cons_zero]
      refine htake (i := 7) (v := (.int .i64 k)) rfl (by kernel_rfl) (by kernel_rfl) (by kernel_rfl) (fun _ _ _ h => h) (Or.inl ⟨by rfl, by (intro w hSw; (try dsimp only at hSw); (try obtain ⟨⟨h1, h2⟩, _, _⟩ := hSw); go_simp; try with_reducible rfl)⟩) (by assumption) ?_; simp only [Act.put, List.setIfInBounds_toArray, List.set_cons_succ, List.set_cons_zero]
      refine htake (i := 8) (v := (.pointer (some ⟨g', off' + k * 3, none⟩))) rfl (by kernel_rfl) (by kernel_rfl) (by kernel_rfl) (fun _ _ _ h => h) (Or.inl ⟨by rfl, by (intro w hSw; (try dsimp only at hSw); (try obtain ⟨⟨h1, h2⟩, _, _⟩ := hSw); go_simp; try with_reducible rfl)⟩) (by assumption) ?_; simp only [Act.put, List.setIfInBounds_toArray, List.set_cons_succ, List.set_cons_zero]
      refine htake (i := 9) (v := (.agg d.cells.toArray)) rfl (by kernel_rfl) (by kernel_rfl) (by kernel_rfl) (fun _ _ _ h => h) (Or.inl ⟨by rfl, yl_loadR rfl rfl (by rfl) (fun _ h => h.2.2)⟩) (by assumption) ?_; simp only [Act.put, List.setIfInBounds_toArray, List.set_cons_succ, List.set_cons_zero]
      refine htake (i := 10) (v := (.bool false)) rfl (by kernel_rfl) (by kernel_rfl) (by kernel_rfl) (fun _ _ _ h => h) (Or.inl ⟨by rfl, (fun _ _ => run_neq_same rfl e_hopR (by decide) gd_hopR rfl rfl Hk.out)⟩) (by assumption) ?_; simp only [Act.put, List.setIfInBounds_toArray, List.set_cons_succ, List.set_cons_zero]
      refine wpAnyH_done (by kernel_rfl) ?_ _
      clear hHeld
      go_wp2_with fail
      go_roundw
      case rel => exact ⟨k + 1, by omega, by go_num, hS⟩
      case measure => simp [intOf]; omega
    · have hkn : k = m.trail.length := by omega
      subst hkn
      go_wp2_with (first | ((with_reducible show wpList _ _ _ (Oper.mk _ (Op.load _ _) _ _ _ _ :: _) _ _); refine wpl rfl ?_; refine owp_load1 hS 0 rfl rfl rfl Ha.out.g42 ?_))
      go_ret
      exact ⟨rfl, hS.pick [] rfl (by decide)⟩

end Go.Proofs.Ytjgphbdffhmmgaa
