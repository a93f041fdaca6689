/-
  A deed turned into the document's; the document's comparisons say true of states and deeds that are alike.
-/
import Derived.Test.YtldmkafobbemjaaC3
import Derived.Test.YtldmkafobbemjaaB2
import Derived.Test.YtldmkafobbemjaaC5
namespace Go.Proofs.Ytldmkafobbemjaa
set_option linter.unusedSimpArgs false
set_option linter.unusedVariables false
open Go Go.RowKit
set_option maxRecDepth 100000
set_option maxHeartbeats 2000000

theorem run_buildA {P : Program} {T e : TypeId} {n size : Nat} (hu : P.underlying T = some (.array n e)) (hp : ∀ w, (sizeOf e).run P w = .ok size w) {zs : List Value} [hz : ZeroOK P T zs]
    {parts : List (Nat × Value)} {cs : List Value} (hf : Instr.fill (fun i => some (i * size, size)) zs.toArray parts = some cs.toArray) (w : World) :
    (Instr.build T parts.toArray).run P w = .ok (.agg cs.toArray) w := by
  obtain ⟨hz⟩ := hz
  cases hi : P.info? T with
  | none => simp [hi] at hz
  | some i =>
    cases hq : i.zero with
    | none => simp [hi, hq] at hz
    | some z =>
      simp only [hi, hq, Option.bind_some, Option.map_some, Option.some.injEq] at hz
      unfold Instr.build
      simp only [zeroValue, typeInfo, hi, hq, Sem.run_bind, Sem.run_pure, Result.andThen_ok, run_underlying hu, hp, hz, hf]
      simp [hi, hq, hz, hf, Sem.run_pure]

def zSigs : List Value := Sig.zero.cells (.slice none 0 0) ++ Sig.zero.cells (.slice none 0 0)
instance zeSigs2 : ZeroOK Try.prog 40 zSigs := ⟨by kernel_rfl⟩
instance zeSigs2R : ZeroOK Try.prog 67 zSigs := ⟨by kernel_rfl⟩
theorem fill_sigs (a b : Sig) (av bv : Value) (ha : a.l.cells.length = 1024) (hb : b.l.cells.length = 1024) :
    Instr.fill (fun i => some (i * 1026, 1026)) zSigs.toArray [(0, .agg (a.cells av).toArray), (1, .agg (b.cells bv).toArray)] = some (a.cells av ++ b.cells bv).toArray := by
  have la := Sig.len a av ha
  have lb := Sig.len b bv hb
  have lz := Sig.len Sig.zero (.slice none 0 0) lzero_len
  rw [fill_part _ _ _ _ _ (0 * 1026) 1026 rfl (a.cells av) rfl la (by rw [zSigs, List.length_append, lz]; omega), fill_part _ _ _ _ _ (1 * 1026) 1026 rfl (b.cells bv) rfl lb (by
    rw [zSigs]; simp only [List.length_append, List.length_take, List.length_drop, la, lz]; omega)]
  have e1 : (zSigs.take (0 * 1026) ++ a.cells av ++ zSigs.drop (0 * 1026 + 1026)) = a.cells av ++ Sig.zero.cells (.slice none 0 0) := by
    rw [zSigs, show 0 * 1026 + 1026 = 1026 by omega, List.drop_left' lz]; simp
  rw [e1, show 1 * 1026 = 1026 by omega, List.take_left' la, List.drop_eq_nil_of_le (by rw [List.length_append, la, lz]; omega), List.append_nil]
  rfl
theorem build_sigs (a b : Sig) (av bv : Value) (ha : a.l.cells.length = 1024) (hb : b.l.cells.length = 1024) (w : World) :
    (Instr.build 40 [(0, .agg (a.cells av).toArray), (1, .agg (b.cells bv).toArray)].toArray).run Try.prog w = .ok (.agg (a.cells av ++ b.cells bv).toArray) w :=
  run_buildA Try.underlying40 (fun w => by kernel_rfl) (fill_sigs a b av bv ha hb) w
theorem build_sigsR (a b : Sig) (av bv : Value) (ha : a.l.cells.length = 1024) (hb : b.l.cells.length = 1024) (w : World) :
    (Instr.build 67 [(0, .agg (a.cells av).toArray), (1, .agg (b.cells bv).toArray)].toArray).run Try.prog w = .ok (.agg (a.cells av ++ b.cells bv).toArray) w :=
  run_buildA Try.underlying67 (fun w => by kernel_rfl) (fill_sigs a b av bv ha hb) w
theorem fill_deed2 (d : Deed) (h : d.Fit) (cv av bv : Value) : Instr.fill ((#[(0, 7), (7, 2052)] : Array (Nat × Nat))[·]?) (Deed.zero.cells (.slice none 0 0) (.slice none 0 0) (.slice none 0 0)).toArray
    [(0, .agg (d.s.cells cv).toArray), (1, .agg (d.a.cells av ++ d.b.cells bv).toArray)] = some (d.cells cv av bv).toArray := by
  have hl : (d.a.cells av ++ d.b.cells bv).length = 2052 := by rw [List.length_append, h.la, h.lb]
  rw [fill_part _ _ _ _ _ 0 7 rfl (d.s.cells cv) rfl rfl (by rw [Deed.Fit.zero.len]; omega), Deed.set_s,
    fill_part _ _ _ _ _ 7 2052 rfl (d.a.cells av ++ d.b.cells bv) rfl hl (by rw [Deed.Fit.len (d := ⟨d.s, Deed.zero.a, Deed.zero.b⟩) ⟨lzero_len, lzero_len⟩]; omega)]
  have e1 : (Deed.cells ⟨d.s, Deed.zero.a, Deed.zero.b⟩ cv (.slice none 0 0) (.slice none 0 0)).take 7 = d.s.cells cv := by
    rw [Deed.cells, List.append_assoc, List.take_left' (State.len _ _)]
  rw [e1, List.drop_eq_nil_of_le (by rw [Deed.Fit.len (d := ⟨d.s, Deed.zero.a, Deed.zero.b⟩) ⟨lzero_len, lzero_len⟩]; omega), List.append_nil]
  simp [Deed.cells, Instr.fill]
theorem build_deed2 (d : Deed) (h : d.Fit) (cv av bv : Value) (w : World) : (Instr.build 42 [(0, .agg (d.s.cells cv).toArray), (1, .agg (d.a.cells av ++ d.b.cells bv).toArray)].toArray).run Try.prog w = .ok (.agg (d.cells cv av bv).toArray) w :=
  run_build Try.underlying42 (fun w => by kernel_rfl) (fill_deed2 d h cv av bv) w
theorem build_deed2R (d : Deed) (h : d.Fit) (cv av bv : Value) (w : World) : (Instr.build 69 [(0, .agg (d.s.cells cv).toArray), (1, .agg (d.a.cells av ++ d.b.cells bv).toArray)].toArray).run Try.prog w = .ok (.agg (d.cells cv av bv).toArray) w :=
  run_build Try.underlying69 (fun w => by kernel_rfl) (fill_deed2 d h cv av bv) w

theorem Deed.Small.fit {d : Deed} (h : d.Small) : d.Fit := ⟨LSig.len d.a.l h.a.shown h.a.other, LSig.len d.b.l h.b.shown h.b.other⟩

def DeedFromPost (T C : TypeId) (w : World) (d : Deed) (e : Ending) (w' : World) : Prop :=
  ∃ cv av bv x y z, e = .returned (.agg (d.cells cv av bv).toArray) ∧ St w [] w' [x, y, z] ∧ RowV C 36 cv d.s.conds.length (condCells d.s.conds) x ∧ RowV T 32 av d.a.way.length (wayCells d.a.way) y ∧ RowV T 32 bv d.b.way.length (wayCells d.b.way) z

theorem deedFrom_ok (d : Deed) (hd : d.Small) (cv av bv : Value) (w : World) (hc : RowR w 36 cv d.s.conds.length (condCells d.s.conds)) (ha : RowR w 32 av d.a.way.length (wayCells d.a.way)) (hb : RowR w 32 bv d.b.way.length (wayCells d.b.way)) :
    Calls Try.prog 13 #[.agg (d.cells cv av bv).toArray] w (DeedFromPost 22 91 w d) := by
  have hS := St.nil w
  have hfit := hd.fit
  have Hc := Lib.hid hc
  have Ha := Lib.hid ha
  have Hb := Lib.hid hb
  have Hfit := Lib.hid hfit
  have Hsc := Lib.hid (fun w' h => stateFrom_ok d.s hd.s.hash cv w' h (by have := hd.s.conds; omega))
  have Hsa := Lib.hid (fun w' h => sigFrom_ok d.a hd.a av w' h (by have := hd.wa; omega))
  have Hsb := Lib.hid (fun w' h => sigFrom_ok d.b hd.b bv w' h (by have := hd.wb; omega))
  have Hgs := Lib.hid (Deed.gs (d := d) cv av bv)
  have Hga := Lib.hid (Deed.ga hfit cv av bv)
  have Hgb := Lib.hid (Deed.gb hfit cv av bv)
  have Hla := Lib.hid (hfit.la av)
  have Hlb := Lib.hid (hfit.lb bv)
  clear hc ha hb hfit hd
  generalize hcs : d.cells cv av bv = cs at *
  clear hcs
  go_enter Try.func13, Try.ntmps13
  go_upto_region 1 with (first
    | ((with_reducible show wpList _ _ _ (Oper.mk _ (Op.box _ _) _ _ _ _ :: _) _ _); refine wpl rfl ?_; refine owp_box hS rfl (vs := cs) rfl ?_; clear hS; intro gs _ hS; try simp only [List.cons_append, List.nil_append, List.append_nil, List.set_cons_zero, List.set_cons_succ] at hS)
    | ((with_reducible show wpList _ _ _ (Oper.mk (some 2) (Op.alloc _) _ _ _ _ :: _) _ _); refine wpl rfl ?_; refine (owp_allocAt hS 2 rfl rfl ?_); clear hS; intro gr _ hS; simp only [List.cons_append, List.nil_append] at hS))
  try simp only [Act.put, List.setIfInBounds_toArray, List.set_cons_succ, List.set_cons_zero]
  replace hS := hS.drew
  refine wp_region_held_drew (S := (fun w' => CellsAt w' ⟨gs, 0, none⟩ (d.s.cells cv) ∧ CellsAt w' ⟨gs, 7, none⟩ (d.a.cells av) ∧ CellsAt w' ⟨gs, 1033, none⟩ (d.b.cells bv))) (by kernel_rfl) ⟨(hS.get 0 rfl).range 0 7 Hgs.out, (hS.get 0 rfl).range 7 1026 Hga.out, (hS.get 0 rfl).range 1033 1026 Hgb.out⟩ (fun hHeld => ?_)
  refine htake (i := 0) (v := (.pointer (some ⟨gs, 0, none⟩))) rfl (by kernel_rfl) (by kernel_rfl) (by kernel_rfl) (fun _ _ _ h => h) (Or.inl ⟨by rfl, by (intro w hSw; (try dsimp only at hSw); (try obtain ⟨_, _, _⟩ := hSw); go_simp; try with_reducible rfl)⟩) (by assumption) ?_; simp only [Act.put, List.setIfInBounds_toArray, List.set_cons_succ, List.set_cons_zero]
  refine htake (i := 1) (v := (.agg (d.s.cells cv).toArray)) rfl (by kernel_rfl) (by kernel_rfl) (by kernel_rfl) (fun _ _ _ h => h) (Or.inl ⟨by rfl, yl_loadR rfl rfl (State.len _ _) (fun _ h => h.1)⟩) (by assumption) ?_; simp only [Act.put, List.setIfInBounds_toArray, List.set_cons_succ, List.set_cons_zero]
  refine htake (i := 3) (v := (.pointer (some ⟨gs, 7, none⟩))) rfl (by kernel_rfl) (by kernel_rfl) (by kernel_rfl) (fun _ _ _ h => h) (Or.inl ⟨by rfl, by (intro w hSw; (try dsimp only at hSw); (try obtain ⟨_, _, _⟩ := hSw); go_simp; try with_reducible rfl)⟩) (by assumption) ?_; simp only [Act.put, List.setIfInBounds_toArray, List.set_cons_succ, List.set_cons_zero]
  refine htake (i := 4) (v := (.pointer (some ⟨gs, 7, none⟩))) rfl (by kernel_rfl) (by kernel_rfl) (by kernel_rfl) (fun _ _ _ h => h) (Or.inl ⟨by rfl, by (intro w hSw; (try dsimp only at hSw); (try obtain ⟨_, _, _⟩ := hSw); go_simp; try with_reducible rfl)⟩) (by assumption) ?_; simp only [Act.put, List.setIfInBounds_toArray, List.set_cons_succ, List.set_cons_zero]
  refine htake (i := 5) (v := (.agg (d.a.cells av).toArray)) rfl (by kernel_rfl) (by kernel_rfl) (by kernel_rfl) (fun _ _ _ h => h) (Or.inl ⟨by rfl, yl_loadR rfl rfl Hla.out (fun _ h => h.2.1)⟩) (by assumption) ?_; simp only [Act.put, List.setIfInBounds_toArray, List.set_cons_succ, List.set_cons_zero]
  refine htake (i := 7) (v := (.pointer (some ⟨gs, 7, none⟩))) rfl (by kernel_rfl) (by kernel_rfl) (by kernel_rfl) (fun _ _ _ h => h) (Or.inl ⟨by rfl, by (intro w hSw; (try dsimp only at hSw); (try obtain ⟨_, _, _⟩ := hSw); go_simp; try with_reducible rfl)⟩) (by assumption) ?_; simp only [Act.put, List.setIfInBounds_toArray, List.set_cons_succ, List.set_cons_zero]
  refine htake (i := 8) (v := (.pointer (some ⟨gs, 1033, none⟩))) rfl (by kernel_rfl) (by kernel_rfl) (by kernel_rfl) (fun _ _ _ h => h) (Or.inl ⟨by rfl, by (intro w hSw; (try dsimp only at hSw); (try obtain ⟨_, _, _⟩ := hSw); go_simp; try with_reducible rfl)⟩) (by assumption) ?_; simp only [Act.put, List.setIfInBounds_toArray, List.set_cons_succ, List.set_cons_zero]
  refine htake (i := 9) (v := (.agg (d.b.cells bv).toArray)) rfl (by kernel_rfl) (by kernel_rfl) (by kernel_rfl) (fun _ _ _ h => h) (Or.inl ⟨by rfl, yl_loadR rfl rfl Hlb.out (fun _ h => h.2.2)⟩) (by assumption) ?_; simp only [Act.put, List.setIfInBounds_toArray, List.set_cons_succ, List.set_cons_zero]
  refine wpAnyH_ready (rs := [2]) (by kernel_rfl) (by simp) ?_
  refine hcons rfl rfl (fun K hK => ?_) ?_
  · clear hHeld
    refine owp_call rfl (by kernel_rfl) (args := #[.agg (d.s.cells cv).toArray]) rfl (Hsc.out _ (Hc.out.st0 hS)) ?_
    rintro e w5 ⟨cv2, x2, rfl, hc, hrowx⟩
    replace hS := hS.call0 hc
    try simp only [List.cons_append, List.nil_append, List.append_nil, List.set_cons_zero, List.set_cons_succ] at hS
    clear hc
    obtain ⟨a2, c2, rfl⟩ := hrowx.isSl
    refine ⟨_, rfl, ?_⟩
    refine hK.out _ _ ⟨(hS.get 0 rfl).range 0 7 Hgs.out, (hS.get 0 rfl).range 7 1026 Hga.out, (hS.get 0 rfl).range 1033 1026 Hgb.out⟩ (fun hHeld => ?_)
    clear hK K
    simp only [Act.put, List.setIfInBounds_toArray, List.set_cons_succ, List.set_cons_zero]
    refine wpAnyH_ready (rs := [6]) (by kernel_rfl) (by simp) ?_
    refine hcons rfl rfl (fun K hK => ?_) ?_
    · clear hHeld
      refine owp_call rfl (by kernel_rfl) (args := #[.agg (d.a.cells av).toArray]) rfl (Hsa.out _ (Ha.out.st0 hS)) ?_
      rintro e w6 ⟨av2, y2, rfl, hc, hrowy⟩
      replace hS := hS.call0 hc
      try simp only [List.cons_append, List.nil_append, List.append_nil, List.set_cons_zero, List.set_cons_succ] at hS
      clear hc
      obtain ⟨a3, c3, rfl⟩ := hrowy.isSl
      refine ⟨_, rfl, ?_⟩
      refine hK.out _ _ ⟨(hS.get 0 rfl).range 0 7 Hgs.out, (hS.get 0 rfl).range 7 1026 Hga.out, (hS.get 0 rfl).range 1033 1026 Hgb.out⟩ (fun hHeld => ?_)
      clear hK K
      simp only [Act.put, List.setIfInBounds_toArray, List.set_cons_succ, List.set_cons_zero]
      refine wpAnyH_ready (rs := [10]) (by kernel_rfl) (by simp) ?_
      refine hcons rfl rfl (fun K hK => ?_) ?_
      · clear hHeld
        refine owp_call rfl (by kernel_rfl) (args := #[.agg (d.b.cells bv).toArray]) rfl (Hsb.out _ (Hb.out.st0 hS)) ?_
        rintro e w7 ⟨bv2, z2, rfl, hc, hrowz⟩
        replace hS := hS.call0 hc
        try simp only [List.cons_append, List.nil_append, List.append_nil, List.set_cons_zero, List.set_cons_succ] at hS
        clear hc
        obtain ⟨a4, c4, rfl⟩ := hrowz.isSl
        refine ⟨_, rfl, ?_⟩
        refine hK.out _ _ ⟨(hS.get 0 rfl).range 0 7 Hgs.out, (hS.get 0 rfl).range 7 1026 Hga.out, (hS.get 0 rfl).range 1033 1026 Hgb.out⟩ (fun hHeld => ?_)
        clear hK K
        simp only [Act.put, List.setIfInBounds_toArray, List.set_cons_succ, List.set_cons_zero]
        refine htake (i := 11) (v := (.agg (d.a.cells (.slice a3 d.a.way.length c3) ++ d.b.cells (.slice a4 d.b.way.length c4)).toArray)) rfl (by kernel_rfl) (by kernel_rfl) (by kernel_rfl) (fun _ _ _ h => h) (Or.inl ⟨by rfl, yl_build rfl [(0, .agg (d.a.cells (.slice a3 d.a.way.length c3)).toArray), (1, .agg (d.b.cells (.slice a4 d.b.way.length c4)).toArray)] rfl (build_sigsR d.a d.b _ _ Hfit.out.a Hfit.out.b)⟩) (by assumption) ?_; simp only [Act.put, List.setIfInBounds_toArray, List.set_cons_succ, List.set_cons_zero]
        refine htake (i := 12) (v := (.agg (d.cells (.slice a2 d.s.conds.length c2) (.slice a3 d.a.way.length c3) (.slice a4 d.b.way.length c4)).toArray)) rfl (by kernel_rfl) (by kernel_rfl) (by kernel_rfl) (fun _ _ _ h => h) (Or.inl ⟨by rfl, yl_build rfl [(0, .agg (d.s.cells (.slice a2 d.s.conds.length c2)).toArray), (1, .agg (d.a.cells (.slice a3 d.a.way.length c3) ++ d.b.cells (.slice a4 d.b.way.length c4)).toArray)] rfl (build_deed2R d Hfit.out _ _ _)⟩) (by assumption) ?_; simp only [Act.put, List.setIfInBounds_toArray, List.set_cons_succ, List.set_cons_zero]
        refine wpAnyH_ready (rs := [13]) (by kernel_rfl) (by simp) ?_
        refine hcons rfl rfl (fun K hK => ?_) ?_
        · clear hHeld
          refine owp_storeW hS 1 rfl rfl rfl rfl (Hfit.out.len _ _ _) (Deed.Fit.zero.len _ _ _) (Deed.one _ _ _ _ rfl rfl rfl) ?_
          clear hS; intro _ hS; try simp only [List.cons_append, List.nil_append, List.append_nil, List.set_cons_zero, List.set_cons_succ] at hS
          refine hK.out _ _ ⟨(hS.get 0 rfl).range 0 7 Hgs.out, (hS.get 0 rfl).range 7 1026 Hga.out, (hS.get 0 rfl).range 1033 1026 Hgb.out⟩ (fun hHeld => ?_)
          clear hK K
          simp only [Act.put, List.setIfInBounds_toArray, List.set_cons_succ, List.set_cons_zero]
          refine wpAnyH_done (by kernel_rfl) ?_ _
          clear hHeld
          go_wp2_with fail
          (try simp only [Exit.inBlock, Exit.then]); refine bodyPost_ret (res_cell rfl rfl hS 1 rfl (Hfit.out.len _ _ _)) rfl ?_
          exact ⟨_, _, _, x2, y2, z2, rfl, hS.pick [2, 3, 4] rfl (by decide), hrowx, hrowy, hrowz⟩
        exact AllReadyH.nil
      exact AllReadyH.nil
    exact AllReadyH.nil
  exact AllReadyH.nil

theorem gd_condR : Try.prog.eqGuardType Try.prog.depth 91 = false := by kernel_rfl

theorem stateSame_ok (s : State) (hh : ∀ c, c ∈ s.conds → c.hash.length = 32) (u v : Value) (w : World) (hu : RowR w 36 u s.conds.length (condCells s.conds)) (hv : RowR w 36 v s.conds.length (condCells s.conds)) (hle : s.conds.length ≤ 1000) :
    Calls Try.prog 17 #[.agg (s.cells u).toArray, .agg (s.cells v).toArray] w (TruePost w) := by
  have hS := St.nil w
  obtain ⟨a0, c0, rfl⟩ := hu.isSl
  obtain ⟨a1, c1, rfl⟩ := hv.isSl
  have Hh := Lib.hid hh
  have Hu := Lib.hid hu
  have Hv := Lib.hid hv
  have A0 := Lib.hid (show (s.cells (.slice a0 s.conds.length c0))[0]? = some (.int .u32 s.channel) from rfl)
  have A1 := Lib.hid (show (s.cells (.slice a0 s.conds.length c0))[1]? = some (.int .u64 s.round) from rfl)
  have A2 := Lib.hid (show ((s.cells (.slice a0 s.conds.length c0)).drop 2).take 2 = [.int .u64 s.m0, .int .u64 s.m1] from rfl)
  have A4 := Lib.hid (show ((s.cells (.slice a0 s.conds.length c0)).drop 4).take 2 = [.int .u64 s.t0, .int .u64 s.t1] from rfl)
  have A6 := Lib.hid (show (s.cells (.slice a0 s.conds.length c0))[6]? = some (.slice a0 s.conds.length c0) from rfl)
  have B0 := Lib.hid (show (s.cells (.slice a1 s.conds.length c1))[0]? = some (.int .u32 s.channel) from rfl)
  have B1 := Lib.hid (show (s.cells (.slice a1 s.conds.length c1))[1]? = some (.int .u64 s.round) from rfl)
  have B2 := Lib.hid (show ((s.cells (.slice a1 s.conds.length c1)).drop 2).take 2 = [.int .u64 s.m0, .int .u64 s.m1] from rfl)
  have B4 := Lib.hid (show ((s.cells (.slice a1 s.conds.length c1)).drop 4).take 2 = [.int .u64 s.t0, .int .u64 s.t1] from rfl)
  have B6 := Lib.hid (show (s.cells (.slice a1 s.conds.length c1))[6]? = some (.slice a1 s.conds.length c1) from rfl)
  clear hu hv hh
  generalize s.cells (.slice a0 s.conds.length c0) = ca at *
  generalize s.cells (.slice a1 s.conds.length c1) = cb at *
  go_enter Try.func17, Try.ntmps17
  go_wp2_with (first
    | ((with_reducible show wpList _ _ _ (Oper.mk (some 2) (Op.box _ _) _ _ _ _ :: _) _ _); refine wpl rfl ?_; refine owp_box hS rfl (vs := ca) rfl ?_; clear hS; intro ga _ hS; try simp only [List.cons_append, List.nil_append, List.append_nil, List.set_cons_zero, List.set_cons_succ] at hS)
    | ((with_reducible show wpList _ _ _ (Oper.mk (some 3) (Op.box _ _) _ _ _ _ :: _) _ _); refine wpl rfl ?_; refine owp_box hS rfl (vs := cb) rfl ?_; clear hS; intro gb _ hS; try simp only [List.cons_append, List.nil_append, List.append_nil, List.set_cons_zero, List.set_cons_succ] at hS)
    | ((with_reducible show wpList _ _ _ (Oper.mk (some 7) (Op.load _ _) _ _ _ _ :: _) _ _); refine wpl rfl ?_; refine owp_load1 hS 0 rfl rfl rfl A0.out ?_)
    | ((with_reducible show wpList _ _ _ (Oper.mk (some 9) (Op.load _ _) _ _ _ _ :: _) _ _); refine wpl rfl ?_; refine owp_load1 hS 1 rfl rfl rfl B0.out ?_)
    | ((with_reducible show wpList _ _ _ (Oper.mk (some 13) (Op.load _ _) _ _ _ _ :: _) _ _); refine wpl rfl ?_; refine owp_load1 hS 0 rfl rfl rfl A1.out ?_)
    | ((with_reducible show wpList _ _ _ (Oper.mk (some 15) (Op.load _ _) _ _ _ _ :: _) _ _); refine wpl rfl ?_; refine owp_load1 hS 1 rfl rfl rfl B1.out ?_)
    | ((with_reducible show wpList _ _ _ (Oper.mk (some 20) (Op.load _ _) _ _ _ _ :: _) _ _); refine wpl rfl ?_; refine owp_load hS 0 rfl rfl rfl A2.out rfl ?_)
    | ((with_reducible show wpList _ _ _ (Oper.mk (some 22) (Op.load _ _) _ _ _ _ :: _) _ _); refine wpl rfl ?_; refine owp_load hS 1 rfl rfl rfl B2.out rfl ?_)
    | ((with_reducible show wpList _ _ _ (Oper.mk (some 27) (Op.load _ _) _ _ _ _ :: _) _ _); refine wpl rfl ?_; refine owp_load hS 0 rfl rfl rfl A4.out rfl ?_)
    | ((with_reducible show wpList _ _ _ (Oper.mk (some 29) (Op.load _ _) _ _ _ _ :: _) _ _); refine wpl rfl ?_; refine owp_load hS 1 rfl rfl rfl B4.out rfl ?_)
    | ((with_reducible show wpList _ _ _ (Oper.mk (some 34) (Op.load _ _) _ _ _ _ :: _) _ _); refine wpl rfl ?_; refine owp_load1 hS 0 rfl rfl rfl A6.out ?_)
    | ((with_reducible show wpList _ _ _ (Oper.mk (some 37) (Op.load _ _) _ _ _ _ :: _) _ _); refine wpl rfl ?_; refine owp_load1 hS 1 rfl rfl rfl B6.out ?_)
    | ((with_reducible show wpList _ _ _ (Oper.mk (some 23) (Op.binOp _ _ _ _ _) _ _ _ _ :: _) _ _); refine wpl rfl ?_; refine owp_neqs rfl e_two (by decide) gd_two rfl rfl (like_two _ _) ?_)
    | ((with_reducible show wpList _ _ _ (Oper.mk (some 30) (Op.binOp _ _ _ _ _) _ _ _ _ :: _) _ _); refine wpl rfl ?_; refine owp_neqs rfl e_two (by decide) gd_two rfl rfl (like_two _ _) ?_))
  go_loopw [5] (fun i wr => ∃ k : Nat, k ≤ s.conds.length ∧ i = .int .i64 k ∧ St w [] wr [some (ga, ca, 59), some (gb, cb, 59)]) (fun i _ => s.conds.length - (intOf i).toNat)
  case atStart => exact ⟨0, Nat.zero_le _, rfl, hS⟩
  case round =>
    clear hS
    obtain ⟨k, hk, rfl, hS⟩ := hrel
    by_cases hlt : k < s.conds.length
    · obtain ⟨g, off, rfl, hcs⟩ := Hu.out.cellsAll k hlt
      obtain ⟨g', off', rfl, hcs'⟩ := Hv.out.cellsAll k hlt
      rw [condCells_drop s.conds Hh.out k hlt] at hcs hcs'
      have Hcs := Lib.hid hcs
      have Hcs' := Lib.hid hcs'
      have hd32 := Hh.out _ (List.getElem_mem hlt)
      have Hd := Lib.hid (Cond.len s.conds[k] hd32)
      have Hk := Lib.hid (Cond.like s.conds[k] hd32)
      clear hcs hcs' hd32
      generalize s.conds[k] = d at *
      have hi1 : (0 : Int) ≤ k := by omega
      have hi2 : (k : Int) < s.conds.length := by omega
      go_wp2_with (first | ((with_reducible show wpList _ _ _ (Oper.mk _ (Op.load _ _) _ _ _ _ :: _) _ _); refine wpl rfl ?_; refine owp_load1 hS 0 rfl rfl rfl A6.out ?_))
      replace hS := hS.drew
      refine wp_region_held_drew (S := (fun w' => (w'.cell? ⟨ga, 6, none⟩ = some (.slice (some ⟨g, off, none⟩) s.conds.length c0) ∧ w'.cell? ⟨gb, 6, none⟩ = some (.slice (some ⟨g', off', none⟩) s.conds.length c1)) ∧ CellsAt w' ⟨g, off + k * 36, none⟩ d.cells ∧ CellsAt w' ⟨g', off' + k * 36, none⟩ d.cells)) (by kernel_rfl) ⟨⟨(hS.get 0 rfl).cell 6 A6.out, (hS.get 1 rfl).cell 6 B6.out⟩, Hcs.out _ _ hS, Hcs'.out _ _ hS⟩ (fun hHeld => ?_)
      refine htake (i := 0) (v := (.pointer (some ⟨ga, 6, none⟩))) rfl (by kernel_rfl) (by kernel_rfl) (by kernel_rfl) (fun _ _ _ h => h) (Or.inl ⟨by rfl, by (intro w hSw; (try dsimp only at hSw); (try obtain ⟨⟨h1, h2⟩, _, _⟩ := hSw); go_simp; try with_reducible rfl)⟩) (by assumption) ?_; simp only [Act.put, List.setIfInBounds_toArray, List.set_cons_succ, List.set_cons_zero]
      refine htake (i := 1) (v := (.slice (some ⟨g, off, none⟩) s.conds.length c0)) rfl (by kernel_rfl) (by kernel_rfl) (by kernel_rfl) (fun _ _ _ h => h) (Or.inl ⟨by rfl, by (intro w hSw; (try dsimp only at hSw); (try obtain ⟨⟨h1, h2⟩, _, _⟩ := hSw); go_simp; try with_reducible rfl)⟩) (by assumption) ?_; simp only [Act.put, List.setIfInBounds_toArray, List.set_cons_succ, List.set_cons_zero]
      refine htake (i := 2) (v := (.int .i64 k)) rfl (by kernel_rfl) (by kernel_rfl) (by kernel_rfl) (fun _ _ _ h => h) (Or.inl ⟨by rfl, by (intro w hSw; (try dsimp only at hSw); (try obtain ⟨⟨h1, h2⟩, _, _⟩ := hSw); go_simp; try with_reducible rfl)⟩) (by assumption) ?_; simp only [Act.put, List.setIfInBounds_toArray, List.set_cons_succ, List.set_cons_zero]
      refine htake (i := 3) (v := (.pointer (some ⟨g, off + k * 36, none⟩))) rfl (by kernel_rfl) (by kernel_rfl) (by kernel_rfl) (fun _ _ _ h => h) (Or.inl ⟨by rfl, by (intro w hSw; (try dsimp only at hSw); (try obtain ⟨⟨h1, h2⟩, _, _⟩ := hSw); go_simp; try with_reducible rfl)⟩) (by assumption) ?_; simp only [Act.put, List.setIfInBounds_toArray, List.set_cons_succ, List.set_cons_zero]
      refine htake (i := 4) (v := (.agg d.cells.toArray)) rfl (by kernel_rfl) (by kernel_rfl) (by kernel_rfl) (fun _ _ _ h => h) (Or.inl ⟨by rfl, yl_loadR rfl rfl Hd.out (fun _ h => h.2.1)⟩) (by assumption) ?_; simp only [Act.put, List.setIfInBounds_toArray, List.set_cons_succ, List.set_cons_zero]
      refine htake (i := 5) (v := (.pointer (some ⟨gb, 6, none⟩))) rfl (by kernel_rfl) (by kernel_rfl) (by kernel_rfl) (fun _ _ _ h => h) (Or.inl ⟨by rfl, by (intro w hSw; (try dsimp only at hSw); (try obtain ⟨⟨h1, h2⟩, _, _⟩ := hSw); go_simp; try with_reducible rfl)⟩) (by assumption) ?_; simp only [Act.put, List.setIfInBounds_toArray, List.set_cons_succ, List.set_cons_zero]
      refine htake (i := 6) (v := (.slice (some ⟨g', off', none⟩) s.conds.length c1)) rfl (by kernel_rfl) (by kernel_rfl) (by kernel_rfl) (fun _ _ _ h => h) (Or.inl ⟨by rfl, by (intro w hSw; (try dsimp only at hSw); (try obtain ⟨⟨h1, h2⟩, _, _⟩ := hSw); go_simp; try with_reducible rfl)⟩) (by assumption) ?_; simp only [Act.put, List.setIfInBounds_toArray, List.set_cons_succ, List.set_cons_zero]
      refine htake (i := 7) (v := (.int .i64 k)) rfl (by kernel_rfl) (by kernel_rfl) (by kernel_rfl) (fun _ _ _ h => h) (Or.inl ⟨by rfl, by (intro w hSw; (try dsimp only at hSw); (try obtain ⟨⟨h1, h2⟩, _, _⟩ := hSw); go_simp; try with_reducible rfl)⟩) (by assumption) ?_; simp only [Act.put, List.setIfInBounds_toArray, List.set_cons_succ, List.set_cons_zero]
      refine htake (i := 8) (v := (.pointer (some ⟨g', off' + k * 36, none⟩))) rfl (by kernel_rfl) (by kernel_rfl) (by kernel_rfl) (fun _ _ _ h => h) (Or.inl ⟨by rfl, by (intro w hSw; (try dsimp only at hSw); (try obtain ⟨⟨h1, h2⟩, _, _⟩ := hSw); go_simp; try with_reducible rfl)⟩) (by assumption) ?_; simp only [Act.put, List.setIfInBounds_toArray, List.set_cons_succ, List.set_cons_zero]
      refine htake (i := 9) (v := (.agg d.cells.toArray)) rfl (by kernel_rfl) (by kernel_rfl) (by kernel_rfl) (fun _ _ _ h => h) (Or.inl ⟨by rfl, yl_loadR rfl rfl Hd.out (fun _ h => h.2.2)⟩) (by assumption) ?_; simp only [Act.put, List.setIfInBounds_toArray, List.set_cons_succ, List.set_cons_zero]
      refine htake (i := 10) (v := (.bool false)) rfl (by kernel_rfl) (by kernel_rfl) (by kernel_rfl) (fun _ _ _ h => h) (Or.inl ⟨by rfl, (fun _ _ => run_neq_same rfl e_condR (by decide) gd_condR rfl rfl Hk.out)⟩) (by assumption) ?_; simp only [Act.put, List.setIfInBounds_toArray, List.set_cons_succ, List.set_cons_zero]
      refine wpAnyH_done (by kernel_rfl) ?_ _
      clear hHeld
      go_wp2_with fail
      go_roundw
      case rel => exact ⟨k + 1, by omega, by go_num, hS⟩
      case measure => simp [intOf]; omega
    · have hkn : k = s.conds.length := by omega
      subst hkn
      go_wp2_with (first | ((with_reducible show wpList _ _ _ (Oper.mk _ (Op.load _ _) _ _ _ _ :: _) _ _); refine wpl rfl ?_; refine owp_load1 hS 0 rfl rfl rfl A6.out ?_))
      go_ret
      exact ⟨rfl, hS.pick [] rfl (by decide)⟩

theorem deedSame_ok (d : Deed) (hd : d.Small) (cv av bv cv' av' bv' : Value) (w : World) (hc : RowR w 36 cv d.s.conds.length (condCells d.s.conds)) (ha : RowR w 32 av d.a.way.length (wayCells d.a.way)) (hb : RowR w 32 bv d.b.way.length (wayCells d.b.way))
    (hc' : RowR w 36 cv' d.s.conds.length (condCells d.s.conds)) (ha' : RowR w 32 av' d.a.way.length (wayCells d.a.way)) (hb' : RowR w 32 bv' d.b.way.length (wayCells d.b.way)) :
    Calls Try.prog 12 #[.agg (d.cells cv av bv).toArray, .agg (d.cells cv' av' bv').toArray] w (TruePost w) := by
  have hS := St.nil w
  have hfit := hd.fit
  have Hs := Lib.hid (fun w' h h' => stateSame_ok d.s hd.s.hash cv cv' w' h h' (by have := hd.s.conds; omega))
  have Hsa := Lib.hid (fun w' h h' => sigSame_ok d.a hd.a av av' w' h h' (by have := hd.wa; omega))
  have Hsb := Lib.hid (fun w' h h' => sigSame_ok d.b hd.b bv bv' w' h h' (by have := hd.wb; omega))
  have Hr := Lib.hid (And.intro hc (And.intro ha (And.intro hb (And.intro hc' (And.intro ha' hb')))))
  have A0 := Lib.hid (Deed.gs (d := d) cv av bv)
  have A1 := Lib.hid (Deed.ga hfit cv av bv)
  have A2 := Lib.hid (Deed.gb hfit cv av bv)
  have B0 := Lib.hid (Deed.gs (d := d) cv' av' bv')
  have B1 := Lib.hid (Deed.ga hfit cv' av' bv')
  have B2 := Lib.hid (Deed.gb hfit cv' av' bv')
  have Hla := Lib.hid (fun v => hfit.la v)
  have Hlb := Lib.hid (fun v => hfit.lb v)
  clear hc ha hb hc' ha' hb' hfit hd
  generalize d.cells cv av bv = ca at *
  generalize d.cells cv' av' bv' = cb at *
  go_enter Try.func12, Try.ntmps12
  go_wp2_with (first
    | ((with_reducible show wpList _ _ _ (Oper.mk (some 2) (Op.box _ _) _ _ _ _ :: _) _ _); refine wpl rfl ?_; refine owp_box hS rfl (vs := ca) rfl ?_; clear hS; intro ga _ hS; try simp only [List.cons_append, List.nil_append, List.append_nil, List.set_cons_zero, List.set_cons_succ] at hS)
    | ((with_reducible show wpList _ _ _ (Oper.mk (some 3) (Op.box _ _) _ _ _ _ :: _) _ _); refine wpl rfl ?_; refine owp_box hS rfl (vs := cb) rfl ?_; clear hS; intro gb _ hS; try simp only [List.cons_append, List.nil_append, List.append_nil, List.set_cons_zero, List.set_cons_succ] at hS)
    | ((with_reducible show wpList _ _ _ (Oper.mk (some 6) (Op.load _ _) _ _ _ _ :: _) _ _); refine wpl rfl ?_; refine owp_load hS 0 rfl rfl rfl A0.out rfl ?_)
    | ((with_reducible show wpList _ _ _ (Oper.mk (some 8) (Op.load _ _) _ _ _ _ :: _) _ _); refine wpl rfl ?_; refine owp_load hS 1 rfl rfl rfl B0.out rfl ?_))
  refine (Hs.out _ (Hr.out.1.st0 hS) (Hr.out.2.2.2.1.st0 hS)).mono ?_
  rintro e w2 ⟨rfl, hc⟩
  replace hS := hS.call0 hc
  try simp only [List.cons_append, List.nil_append, List.append_nil, List.set_cons_zero, List.set_cons_succ] at hS
  clear hc
  go_wp2_with (first
    | ((with_reducible show wpList _ _ _ (Oper.mk (some 13) (Op.load _ _) _ _ _ _ :: _) _ _); refine wpl rfl ?_; refine owp_load hS 0 rfl rfl rfl A1.out (Hla.out _) ?_)
    | ((with_reducible show wpList _ _ _ (Oper.mk (some 16) (Op.load _ _) _ _ _ _ :: _) _ _); refine wpl rfl ?_; refine owp_load hS 1 rfl rfl rfl B1.out (Hla.out _) ?_))
  refine (Hsa.out _ (Hr.out.2.1.st0 hS) (Hr.out.2.2.2.2.1.st0 hS)).mono ?_
  rintro e w3 ⟨rfl, hc⟩
  replace hS := hS.call0 hc
  try simp only [List.cons_append, List.nil_append, List.append_nil, List.set_cons_zero, List.set_cons_succ] at hS
  clear hc
  go_wp2_with (first
    | ((with_reducible show wpList _ _ _ (Oper.mk (some 22) (Op.load _ _) _ _ _ _ :: _) _ _); refine wpl rfl ?_; refine owp_load hS 0 rfl rfl rfl A2.out (Hlb.out _) ?_)
    | ((with_reducible show wpList _ _ _ (Oper.mk (some 25) (Op.load _ _) _ _ _ _ :: _) _ _); refine wpl rfl ?_; refine owp_load hS 1 rfl rfl rfl B2.out (Hlb.out _) ?_))
  refine (Hsb.out _ (Hr.out.2.2.1.st0 hS) (Hr.out.2.2.2.2.2.st0 hS)).mono ?_
  rintro e w4 ⟨rfl, hc⟩
  replace hS := hS.call0 hc
  try simp only [List.cons_append, List.nil_append, List.append_nil, List.set_cons_zero, List.set_cons_succ] at hS
  clear hc
  go_wp2_with fail
  go_ret
  exact ⟨rfl, hS.pick [] rfl (by decide)⟩

end Go.Proofs.Ytldmkafobbemjaa
