/-
  A deed laid to bytes by the program.
  The deed of the round nothing: made, compared, found right; the law's example.
-/
import Derived.Test.YtldmkafobbemjaaC4
import Derived.Test.YtldmkafobbemjaaC1
import Derived.Test.YtldmkafobbemjaaA5
namespace Go.Proofs.Ytldmkafobbemjaa
set_option linter.unusedSimpArgs false
set_option linter.unusedVariables false
open Go Go.RowKit
set_option maxRecDepth 100000
set_option maxHeartbeats 4000000

theorem Far.grow {w w' : World} {L : List Ent} {u : Value} (h : Far w [] u) (hS : St w [] w' L) : Far w' [] u :=
  fun ad m c e => ⟨by simp, Nat.lt_of_lt_of_le (h ad m c e).2 hS.size⟩
theorem laySig_len (s : Sig) (hf : s.Fit) : (laySig s).length = 1029 + 32 * s.way.length := by
  simp only [laySig, List.length_append, enc_length, layLamp_length _ hf.shown hf.other, flatten32 _ hf.way, List.length_cons, List.length_nil]
theorem layState_len (s : State) (h : ∀ c, c ∈ s.conds → c.hash.length = 32) : (layState s).length = 45 + 57 * s.conds.length := by
  have e : layState s = layStateHead s ++ s.conds.flatMap layCond := by simp [layState, layStateHead, List.append_assoc]
  rw [e, List.length_append, layStateHead_len, layConds_len _ h]

theorem deedBytes_ok (d : Deed) (hok : d.Ok) (cv av bv : Value) (w : World) (hc : RowR w 36 cv d.s.conds.length (condCells d.s.conds)) (ha : RowR w 32 av d.a.way.length (wayCells d.a.way)) (hb : RowR w 32 bv d.b.way.length (wayCells d.b.way))
    (hfc : Far w [] cv) (hfa : Far w [] av) (hfb : Far w [] bv) (hn : d.s.conds.length ≤ 255) (hwa : d.a.way.length ≤ 255) (hwb : d.b.way.length ≤ 255) :
    Calls Try.prog 8 #[.agg (d.cells cv av bv).toArray] w (OPost w none (deedBytes d)) := by
  have hS := St.nil w
  have hfit : d.Fit := ⟨LSig.len d.a.l hok.a.shown hok.a.other, LSig.len d.b.l hok.b.shown hok.b.other⟩
  have Hgs := Lib.hid (Deed.gs (d := d) cv av bv)
  have Hg1 := Lib.hid (Deed.g1 (d := d) cv av bv)
  have Hga := Lib.hid (Deed.ga hfit cv av bv)
  have Hgb := Lib.hid (Deed.gb hfit cv av bv)
  have Hla := Lib.hid (hfit.la av)
  have Hlb := Lib.hid (hfit.lb bv)
  have Hc := Lib.hid hc
  have Ha := Lib.hid ha
  have Hb := Lib.hid hb
  have Hlay := Lib.hid (fun w' h1 h2 => layState_ok d.s hok.s cv none (.slice none 0 0) [] w' (fun _ _ _ h => by cases h) (RowV.nil _ _) h1 h2 hn (by simp))
  have Hsa := Lib.hid (fun x v l w' h1 h2 h3 h4 h5 => laySig_ok d.a hok.a av x v l w' h1 h2 h3 h4 hok.ka hwa h5)
  have Hsb := Lib.hid (fun x v l w' h1 h2 h3 h4 h5 => laySig_ok d.b hok.b bv x v l w' h1 h2 h3 h4 hok.kb hwb h5)
  have hl1 := layState_len d.s (fun c hcm => (hok.s.conds c hcm).hash)
  have hl2 := laySig_len d.a hok.a
  clear hc ha hb hfit
  generalize d.cells cv av bv = cs at *
  go_enter Try.func8, Try.ntmps8
  go_wp2_with (first
    | ((with_reducible show wpList _ _ _ (Oper.mk _ (Op.box _ _) _ _ _ _ :: _) _ _); refine wpl rfl ?_; refine owp_box hS rfl (vs := cs) rfl ?_; clear hS; intro gd _ hS; try simp only [List.cons_append, List.nil_append, List.append_nil, List.set_cons_zero, List.set_cons_succ] at hS)
    | ((with_reducible show wpList _ _ _ (Oper.mk _ (Op.load _ _) _ _ _ _ :: _) _ _); refine wpl rfl ?_; refine owp_load hS 0 rfl rfl rfl Hgs.out rfl ?_))
  refine (Hlay.out _ (Hc.out.st0 hS) (hfc.grow hS)).mono ?_
  rintro e w2 ⟨v2, x2, rfl, hrow2, hcc⟩
  rw [List.nil_append] at hrow2
  replace hS := hS.call0 hcc
  try simp only [List.cons_append, List.nil_append, List.append_nil, List.set_cons_zero, List.set_cons_succ] at hS
  clear hcc
  obtain ⟨a2, c2, rfl⟩ := hrow2.isSl
  by_cases hr : 0 < d.s.round
  · have hr1 : (0 : Int) < d.s.round := by omega
    have Hfin := Lib.hid (show deedBytes d = (layState d.s ++ laySig d.a) ++ laySig d.b by unfold deedBytes; rw [if_pos hr])
    have hle1 : (layState d.s).length ≤ 50000000 := by rw [hl1]; omega
    have hle2 : (layState d.s ++ laySig d.a).length ≤ 50000000 := by rw [List.length_append, hl1, hl2]; omega
    have Hle1 := Lib.hid hle1
    have Hle2 := Lib.hid hle2
    clear hle1 hle2 hl1 hl2 hr
    go_upto_region 3 with (first
      | ((with_reducible show wpList _ _ _ (Oper.mk _ (Op.load _ _) _ _ _ _ :: _) _ _); refine wpl rfl ?_; refine owp_load1 hS 0 rfl rfl rfl Hg1.out ?_))
    try simp only [Act.put, List.setIfInBounds_toArray, List.set_cons_succ, List.set_cons_zero]
    replace hS := hS.drew
    refine wp_region_held_drew (S := (fun w' => CellsAt w' ⟨gd, 7, none⟩ (d.a.cells av) ∧ CellsAt w' ⟨gd, 1033, none⟩ (d.b.cells bv))) (by kernel_rfl) ⟨(hS.get 0 rfl).range 7 1026 Hga.out, (hS.get 0 rfl).range 1033 1026 Hgb.out⟩ (fun hHeld => ?_)
    refine htake (i := 0) (v := (.pointer (some ⟨gd, 7, none⟩))) rfl (by kernel_rfl) (by kernel_rfl) (by kernel_rfl) (fun _ _ _ h => h) (Or.inl ⟨by rfl, by (intro w hSw; (try dsimp only at hSw); (try obtain ⟨_, _⟩ := hSw); go_simp; try with_reducible rfl)⟩) (by assumption) ?_; simp only [Act.put, List.setIfInBounds_toArray, List.set_cons_succ, List.set_cons_zero]
    refine htake (i := 1) (v := (.pointer (some ⟨gd, 1033, none⟩))) rfl (by kernel_rfl) (by kernel_rfl) (by kernel_rfl) (fun _ _ _ h => h) (Or.inl ⟨by rfl, by (intro w hSw; (try dsimp only at hSw); (try obtain ⟨_, _⟩ := hSw); go_simp; try with_reducible rfl)⟩) (by assumption) ?_; simp only [Act.put, List.setIfInBounds_toArray, List.set_cons_succ, List.set_cons_zero]
    refine htake (i := 2) (v := (.agg (d.b.cells bv).toArray)) rfl (by kernel_rfl) (by kernel_rfl) (by kernel_rfl) (fun _ _ _ h => h) (Or.inl ⟨by rfl, yl_loadR rfl rfl Hlb.out (fun _ h => h.2)⟩) (by assumption) ?_; simp only [Act.put, List.setIfInBounds_toArray, List.set_cons_succ, List.set_cons_zero]
    refine htake (i := 3) (v := (.pointer (some ⟨gd, 7, none⟩))) rfl (by kernel_rfl) (by kernel_rfl) (by kernel_rfl) (fun _ _ _ h => h) (Or.inl ⟨by rfl, by (intro w hSw; (try dsimp only at hSw); (try obtain ⟨_, _⟩ := hSw); go_simp; try with_reducible rfl)⟩) (by assumption) ?_; simp only [Act.put, List.setIfInBounds_toArray, List.set_cons_succ, List.set_cons_zero]
    refine htake (i := 4) (v := (.pointer (some ⟨gd, 7, none⟩))) rfl (by kernel_rfl) (by kernel_rfl) (by kernel_rfl) (fun _ _ _ h => h) (Or.inl ⟨by rfl, by (intro w hSw; (try dsimp only at hSw); (try obtain ⟨_, _⟩ := hSw); go_simp; try with_reducible rfl)⟩) (by assumption) ?_; simp only [Act.put, List.setIfInBounds_toArray, List.set_cons_succ, List.set_cons_zero]
    refine htake (i := 5) (v := (.agg (d.a.cells av).toArray)) rfl (by kernel_rfl) (by kernel_rfl) (by kernel_rfl) (fun _ _ _ h => h) (Or.inl ⟨by rfl, yl_loadR rfl rfl Hla.out (fun _ h => h.1)⟩) (by assumption) ?_; simp only [Act.put, List.setIfInBounds_toArray, List.set_cons_succ, List.set_cons_zero]
    refine htake (i := 6) (v := (.slice a2 (layState d.s).length c2)) rfl (by kernel_rfl) (by kernel_rfl) (by kernel_rfl) (fun _ _ _ h => h) (Or.inl ⟨by rfl, by (intro w hSw; (try dsimp only at hSw); (try obtain ⟨_, _⟩ := hSw); go_simp; try with_reducible rfl)⟩) (by assumption) ?_; simp only [Act.put, List.setIfInBounds_toArray, List.set_cons_succ, List.set_cons_zero]
    refine wpAnyH_ready (rs := [7]) (by kernel_rfl) (by simp) ?_
    refine hcons rfl rfl (fun K hK => ?_) ?_
    · clear hHeld
      have hcall := Hsa.out x2 (.slice a2 (layState d.s).length c2) (layState d.s) _ (hS.get 1 rfl) hrow2 (Ha.out.st0 hS) (hfa.st hS 1 rfl) Hle1.out
      refine owp_call rfl (by kernel_rfl) (args := #[.agg (d.a.cells av).toArray, .slice a2 (layState d.s).length c2]) rfl hcall ?_
      clear hcall
      rintro e w5 ⟨v5, x5, rfl, hrow5, hc⟩
      replace hS := hS.call1 (N := []) 1 rfl hc
      try simp only [List.cons_append, List.nil_append, List.append_nil, List.set_cons_zero, List.set_cons_succ] at hS
      clear hc
      obtain ⟨a5, c5, rfl⟩ := hrow5.isSl
      refine ⟨_, rfl, ?_⟩
      refine hK.out _ _ ⟨(hS.get 0 rfl).range 7 1026 Hga.out, (hS.get 0 rfl).range 1033 1026 Hgb.out⟩ (fun hHeld => ?_)
      clear hK K
      simp only [Act.put, List.setIfInBounds_toArray, List.set_cons_succ, List.set_cons_zero]
      refine wpAnyH_ready (rs := [8]) (by kernel_rfl) (by simp) ?_
      refine hcons rfl rfl (fun K hK => ?_) ?_
      · clear hHeld
        have hcall := Hsb.out x5 (.slice a5 (layState d.s ++ laySig d.a).length c5) (layState d.s ++ laySig d.a) _ (hS.get 1 rfl) hrow5 (Hb.out.st0 hS) (hfb.st hS 1 rfl) Hle2.out
        refine owp_call rfl (by kernel_rfl) (args := #[.agg (d.b.cells bv).toArray, .slice a5 (layState d.s ++ laySig d.a).length c5]) rfl hcall ?_
        clear hcall
        rintro e w6 ⟨v6, x6, rfl, hrow6, hc⟩
        rw [← Hfin.out] at hrow6
        replace hS := hS.call1 (N := []) 1 rfl hc
        try simp only [List.cons_append, List.nil_append, List.append_nil, List.set_cons_zero, List.set_cons_succ] at hS
        clear hc
        obtain ⟨a6, c6, rfl⟩ := hrow6.isSl
        refine ⟨_, rfl, ?_⟩
        refine hK.out _ _ ⟨(hS.get 0 rfl).range 7 1026 Hga.out, (hS.get 0 rfl).range 1033 1026 Hgb.out⟩ (fun hHeld => ?_)
        clear hK K
        simp only [Act.put, List.setIfInBounds_toArray, List.set_cons_succ, List.set_cons_zero]
        refine htake (i := 9) (v := (.slice a6 (deedBytes d).length c6)) rfl (by kernel_rfl) (by kernel_rfl) (by kernel_rfl) (fun _ _ _ h => h) (Or.inl ⟨by rfl, by (intro w hSw; (try dsimp only at hSw); (try obtain ⟨_, _⟩ := hSw); go_simp; try with_reducible rfl)⟩) (by assumption) ?_; simp only [Act.put, List.setIfInBounds_toArray, List.set_cons_succ, List.set_cons_zero]
        refine wpAnyH_done (by kernel_rfl) ?_ _
        clear hHeld
        go_wp2_with fail
        go_ret
        exact ⟨_, x6, rfl, hrow6, hS.pick [1] rfl (by decide)⟩
      exact AllReadyH.nil
    exact AllReadyH.nil
  · have h0 : d.s.round = 0 := by omega
    have Hfin := Lib.hid (show deedBytes d = layState d.s by unfold deedBytes; rw [if_neg hr])
    rw [h0] at Hg1
    have hr1 : ¬ (0 : Int) < 0 := by omega
    clear hr h0 hl1 hl2
    go_wp2_with (first
      | ((with_reducible show wpList _ _ _ (Oper.mk _ (Op.load _ _) _ _ _ _ :: _) _ _); refine wpl rfl ?_; refine owp_load1 hS 0 rfl rfl rfl Hg1.out ?_))
    go_ret
    rw [Hfin.out]
    exact ⟨_, x2, rfl, hrow2, hS.pick [1] rfl (by decide)⟩

end Go.Proofs.Ytldmkafobbemjaa
namespace Go.Proofs.Ytldmkafobbemjaa
set_option linter.unusedSimpArgs false
set_option linter.unusedVariables false
open Go Go.RowKit
set_option maxRecDepth 100000
set_option maxHeartbeats 2000000

def noState (ch : Nat) : State := ⟨ch, 0, 0, 0, 0, 0, []⟩
theorem build_stateC (ch : Nat) (w : World) : (Instr.build 31 #[(0, .int .u32 ch)]).run Try.prog w = .ok (.agg ((noState ch).cells (.slice none 0 0)).toArray) w := by kernel_rfl
theorem pactNew_ok (ch : Nat) (w : World) : Calls Try.prog 30 #[.int .u32 ch] w (ValPost w ((noState ch).cells (.slice none 0 0))) := by
  have hS := St.nil w
  go_enter Try.func30, Try.ntmps30
  go_wp2_with (first
    | ((with_reducible show wpList _ _ _ (Oper.mk (some 2) (Op.alloc _) _ _ _ _ :: _) _ _); refine wpl rfl ?_; refine (owp_allocAt hS 2 rfl rfl ?_); clear hS; intro gr _ hS; simp only [List.cons_append, List.nil_append] at hS)
    | ((with_reducible show wpList _ _ _ (Oper.mk _ (Op.build _ _) _ _ _ _ :: _) _ _); refine wpl rfl ?_; refine owp_build rfl [(0, .int .u32 ch)] rfl (build_stateC _ _) ?_)
    | ((with_reducible show wpList _ _ _ (Oper.mk _ (Op.store _ _ _) _ _ _ _ :: _) _ _); refine wpl rfl ?_; refine (owp_storeW hS 0 rfl rfl rfl rfl (by rfl) (by rfl) (State.one _ _ rfl) ?_); clear hS; intro _ hS; try simp only [List.cons_append, List.nil_append, List.append_nil, List.set_cons_zero, List.set_cons_succ] at hS))
  (try simp only [Exit.inBlock, Exit.then]); refine bodyPost_ret (res_cell rfl rfl hS 0 rfl (by rfl)) rfl ?_
  exact ⟨rfl, hS.pick [] rfl (by decide)⟩

def noCells (ch : Nat) : List Value := (firstDeed ch).cells (.slice none 0 0) (.slice none 0 0) (.slice none 0 0)
theorem noCells_len (ch : Nat) : (noCells ch).length = 2059 := Deed.Fit.len (d := firstDeed ch) Deed.Fit.zero' _ _ _
theorem noCells_one (ch : Nat) : ∀ v, v ∈ noCells ch → v.oneCell' = true := Deed.one _ _ _ _ rfl rfl rfl
theorem noCells_s (ch : Nat) : ((noCells ch).drop 0).take 7 = (noState ch).cells (.slice none 0 0) := rfl
theorem noCells_0 (ch : Nat) : (noCells ch)[0]? = some (.int .u32 ch) := rfl
theorem noCells_1 (ch : Nat) : (noCells ch)[1]? = some (.int .u64 0) := rfl
theorem build_deedC (ch : Nat) (w : World) : (Instr.build 42 [(0, .agg ((noState ch).cells (.slice none 0 0)).toArray)].toArray).run Try.prog w = .ok (.agg (noCells ch).toArray) w := build_deed (noState ch) (.slice none 0 0) w

theorem first_ok (ch : Nat) (w : World) : Calls Try.prog 6 #[.int .u32 ch] w (ValPost w (noCells ch)) := by
  have hS := St.nil w
  have Hb := Lib.hid (build_deedC ch)
  have Hlen := Lib.hid (noCells_len ch)
  have Hone := Lib.hid (noCells_one ch)
  generalize noCells ch = cs at *
  go_enter Try.func6, Try.ntmps6
  go_wp2_with (first | ((with_reducible show wpList _ _ _ (Oper.mk (some 2) (Op.alloc _) _ _ _ _ :: _) _ _); refine wpl rfl ?_; refine (owp_allocAt hS 2 rfl rfl ?_); clear hS; intro gr _ hS; simp only [List.cons_append, List.nil_append] at hS))
  refine (pactNew_ok ch _).mono ?_
  rintro e w2 ⟨rfl, hc⟩
  replace hS := hS.call0 hc
  try simp only [List.cons_append, List.nil_append, List.append_nil, List.set_cons_zero, List.set_cons_succ] at hS
  clear hc
  go_wp2_with (first
    | ((with_reducible show wpList _ _ _ (Oper.mk _ (Op.build _ _) _ _ _ _ :: _) _ _); refine wpl rfl ?_; refine owp_build rfl [(0, .agg ((noState ch).cells (.slice none 0 0)).toArray)] rfl (Hb.out _) ?_)
    | ((with_reducible show wpList _ _ _ (Oper.mk _ (Op.store _ _ _) _ _ _ _ :: _) _ _); refine wpl rfl ?_; refine (owp_storeW hS 0 rfl rfl rfl rfl (Hlen.out) (Deed.Fit.zero.len _ _ _) (Hone.out) ?_); clear hS; intro _ hS; try simp only [List.cons_append, List.nil_append, List.append_nil, List.set_cons_zero, List.set_cons_succ] at hS))
  (try simp only [Exit.inBlock, Exit.then]); refine bodyPost_ret (res_cell rfl rfl hS 0 rfl (Hlen.out)) rfl ?_
  exact ⟨rfl, hS.pick [] rfl (by decide)⟩

theorem e_two : ETy Try.prog 28 true (List.replicate 2 [IntKind.u64]).flatten 2 := ety_array (n := 2) Try.underlying28 e_u64 inferInstance
theorem gd_two : Try.prog.eqGuardType Try.prog.depth 28 = false := by kernel_rfl
theorem like_two (a b : Nat) : LikeK (List.replicate 2 [IntKind.u64]).flatten [.int .u64 a, .int .u64 b] := ⟨⟨_, rfl⟩, ⟨_, rfl⟩, trivial⟩

theorem eqNil_ok (w : World) : Calls Try.prog 63 #[.slice none 0 0, .slice none 0 0] w (TruePost w) := by
  have hS := St.nil w
  go_enter Try.func63, Try.ntmps63
  go_wp2
  go_loopw [5, 13] (fun _ i wr => i = .int .i64 0 ∧ St w [] wr []) (fun _ _ _ => 0)
  case atStart => exact ⟨rfl, hS⟩
  case round =>
    clear hS
    obtain ⟨rfl, hS⟩ := hrel
    go_wp2
    go_ret
    exact ⟨rfl, hS⟩

theorem pactSame0_ok (ch : Nat) (w : World) : Calls Try.prog 34 #[.agg ((noState ch).cells (.slice none 0 0)).toArray, .agg ((noState ch).cells (.slice none 0 0)).toArray] w (TruePost w) := by
  have hS := St.nil w
  have G0 := Lib.hid (show ((noState ch).cells (.slice none 0 0))[0]? = some (.int .u32 ch) from rfl)
  have G1 := Lib.hid (show ((noState ch).cells (.slice none 0 0))[1]? = some (.int .u64 0) from rfl)
  have G2 := Lib.hid (show (((noState ch).cells (.slice none 0 0)).drop 2).take 2 = [.int .u64 (0 : Nat), .int .u64 (0 : Nat)] from rfl)
  have G4 := Lib.hid (show (((noState ch).cells (.slice none 0 0)).drop 4).take 2 = [.int .u64 (0 : Nat), .int .u64 (0 : Nat)] from rfl)
  have G6 := Lib.hid (show ((noState ch).cells (.slice none 0 0))[6]? = some (.slice none 0 0) from rfl)
  generalize (noState ch).cells (.slice none 0 0) = cs at *
  go_enter Try.func34, Try.ntmps34
  go_wp2_with (first
    | ((with_reducible show wpList _ _ _ (Oper.mk (some 2) (Op.box _ _) _ _ _ _ :: _) _ _); refine wpl rfl ?_; refine owp_box hS rfl (vs := cs) rfl ?_; clear hS; intro ga _ hS; try simp only [List.cons_append, List.nil_append, List.append_nil, List.set_cons_zero, List.set_cons_succ] at hS)
    | ((with_reducible show wpList _ _ _ (Oper.mk (some 3) (Op.box _ _) _ _ _ _ :: _) _ _); refine wpl rfl ?_; refine owp_box hS rfl (vs := cs) rfl ?_; clear hS; intro gb _ hS; try simp only [List.cons_append, List.nil_append, List.append_nil, List.set_cons_zero, List.set_cons_succ] at hS)
    | ((with_reducible show wpList _ _ _ (Oper.mk (some 6) (Op.load _ _) _ _ _ _ :: _) _ _); refine wpl rfl ?_; refine owp_load1 hS 0 rfl rfl rfl G0.out ?_)
    | ((with_reducible show wpList _ _ _ (Oper.mk (some 8) (Op.load _ _) _ _ _ _ :: _) _ _); refine wpl rfl ?_; refine owp_load1 hS 1 rfl rfl rfl G0.out ?_)
    | ((with_reducible show wpList _ _ _ (Oper.mk (some 12) (Op.load _ _) _ _ _ _ :: _) _ _); refine wpl rfl ?_; refine owp_load1 hS 0 rfl rfl rfl G1.out ?_)
    | ((with_reducible show wpList _ _ _ (Oper.mk (some 14) (Op.load _ _) _ _ _ _ :: _) _ _); refine wpl rfl ?_; refine owp_load1 hS 1 rfl rfl rfl G1.out ?_)
    | ((with_reducible show wpList _ _ _ (Oper.mk (some 19) (Op.load _ _) _ _ _ _ :: _) _ _); refine wpl rfl ?_; refine owp_load hS 0 rfl rfl rfl G2.out rfl ?_)
    | ((with_reducible show wpList _ _ _ (Oper.mk (some 21) (Op.load _ _) _ _ _ _ :: _) _ _); refine wpl rfl ?_; refine owp_load hS 1 rfl rfl rfl G2.out rfl ?_)
    | ((with_reducible show wpList _ _ _ (Oper.mk (some 26) (Op.load _ _) _ _ _ _ :: _) _ _); refine wpl rfl ?_; refine owp_load hS 0 rfl rfl rfl G4.out rfl ?_)
    | ((with_reducible show wpList _ _ _ (Oper.mk (some 28) (Op.load _ _) _ _ _ _ :: _) _ _); refine wpl rfl ?_; refine owp_load hS 1 rfl rfl rfl G4.out rfl ?_)
    | ((with_reducible show wpList _ _ _ (Oper.mk (some 33) (Op.load _ _) _ _ _ _ :: _) _ _); refine wpl rfl ?_; refine owp_load1 hS 0 rfl rfl rfl G6.out ?_)
    | ((with_reducible show wpList _ _ _ (Oper.mk (some 35) (Op.load _ _) _ _ _ _ :: _) _ _); refine wpl rfl ?_; refine owp_load1 hS 1 rfl rfl rfl G6.out ?_)
    | ((with_reducible show wpList _ _ _ (Oper.mk (some 22) (Op.binOp _ _ _ _ _) _ _ _ _ :: _) _ _); refine wpl rfl ?_; refine owp_eql rfl e_two (by decide) gd_two rfl rfl (like_two 0 0) (like_two 0 0) true (by simp) ?_)
    | ((with_reducible show wpList _ _ _ (Oper.mk (some 29) (Op.binOp _ _ _ _ _) _ _ _ _ :: _) _ _); refine wpl rfl ?_; refine owp_eql rfl e_two (by decide) gd_two rfl rfl (like_two 0 0) (like_two 0 0) true (by simp) ?_))
  refine (eqNil_ok _).mono ?_
  rintro e w2 ⟨rfl, hc⟩
  replace hS := hS.call0 hc
  try simp only [List.cons_append, List.nil_append, List.append_nil, List.set_cons_zero, List.set_cons_succ] at hS
  clear hc
  go_wp2_with fail
  go_ret
  exact ⟨rfl, hS.pick [] rfl (by decide)⟩

theorem whole_ok (ks : List Value) (ch ch' : Nat) (w : World) :
    Calls Try.prog 11 #[.agg ks.toArray, .agg (noCells ch).toArray, .int .u32 ch'] w (fun e w' => e = .returned (.bool (ch == ch')) ∧ St w [] w' []) := by
  have hS := St.nil w
  have G0 := Lib.hid (noCells_0 ch)
  have G1 := Lib.hid (noCells_1 ch)
  have Gs := Lib.hid (noCells_s ch)
  generalize noCells ch = cs at *
  by_cases hcc : ch = ch'
  · subst hcc
    go_enter Try.func11, Try.ntmps11
    go_upto_region 4 with (first
      | ((with_reducible show wpList _ _ _ (Oper.mk (some 3) (Op.box _ _) _ _ _ _ :: _) _ _); refine wpl rfl ?_; refine owp_box hS rfl (vs := ks) rfl ?_; clear hS; intro gk _ hS; try simp only [List.cons_append, List.nil_append, List.append_nil, List.set_cons_zero, List.set_cons_succ] at hS)
      | ((with_reducible show wpList _ _ _ (Oper.mk (some 4) (Op.box _ _) _ _ _ _ :: _) _ _); refine wpl rfl ?_; refine owp_box hS rfl (vs := cs) rfl ?_; clear hS; intro gd _ hS; try simp only [List.cons_append, List.nil_append, List.append_nil, List.set_cons_zero, List.set_cons_succ] at hS)
      | ((with_reducible show wpList _ _ _ (Oper.mk (some 9) (Op.load _ _) _ _ _ _ :: _) _ _); refine wpl rfl ?_; refine owp_load1 hS 1 rfl rfl rfl G0.out ?_)
      | ((with_reducible show wpList _ _ _ (Oper.mk (some 14) (Op.load _ _) _ _ _ _ :: _) _ _); refine wpl rfl ?_; refine owp_load1 hS 1 rfl rfl rfl G1.out ?_))
    try simp only [Act.put, List.setIfInBounds_toArray, List.set_cons_succ, List.set_cons_zero]
    replace hS := hS.drew
    refine wp_region_held_drew (S := (fun w' => CellsAt w' ⟨gd, 0, none⟩ ((noState ch).cells (.slice none 0 0)))) (by kernel_rfl) ((hS.get 1 rfl).range 0 7 Gs.out) (fun hHeld => ?_)
    refine htake (i := 0) (v := (.pointer (some ⟨gd, 0, none⟩))) rfl (by kernel_rfl) (by kernel_rfl) (by kernel_rfl) (fun _ _ _ h => h) (Or.inl ⟨by rfl, by (intro w hSw; (try dsimp only at hSw); (try obtain hSw := hSw); go_simp; try with_reducible rfl)⟩) (by assumption) ?_; simp only [Act.put, List.setIfInBounds_toArray, List.set_cons_succ, List.set_cons_zero]
    refine htake (i := 1) (v := (.agg ((noState ch).cells (.slice none 0 0)).toArray)) rfl (by kernel_rfl) (by kernel_rfl) (by kernel_rfl) (fun _ _ _ h => h) (Or.inl ⟨by rfl, yl_loadR rfl rfl rfl (fun _ h => h)⟩) (by assumption) ?_; simp only [Act.put, List.setIfInBounds_toArray, List.set_cons_succ, List.set_cons_zero]
    refine htake (i := 2) (v := (.int .u32 ch)) rfl (by kernel_rfl) (by kernel_rfl) (by kernel_rfl) (fun _ _ _ h => h) (Or.inl ⟨by rfl, by (intro w hSw; (try dsimp only at hSw); (try obtain hSw := hSw); go_simp; try with_reducible rfl)⟩) (by assumption) ?_; simp only [Act.put, List.setIfInBounds_toArray, List.set_cons_succ, List.set_cons_zero]
    refine wpAnyH_ready (rs := [3]) (by kernel_rfl) (by simp) ?_
    refine hcons rfl rfl (fun K hK => ?_) ?_
    · clear hHeld
      refine owp_call rfl (by kernel_rfl) (args := #[.int .u32 ch]) rfl (pactNew_ok ch _) ?_
      rintro e w5 ⟨rfl, hc⟩
      replace hS := hS.call0 hc
      try simp only [List.cons_append, List.nil_append, List.append_nil, List.set_cons_zero, List.set_cons_succ] at hS
      clear hc
      refine ⟨_, rfl, ?_⟩
      refine hK.out _ _ ((hS.get 1 rfl).range 0 7 Gs.out) (fun hHeld => ?_)
      clear hK K
      simp only [Act.put, List.setIfInBounds_toArray, List.set_cons_succ, List.set_cons_zero]
      refine wpAnyH_ready (rs := [4]) (by kernel_rfl) (by simp) ?_
      refine hcons rfl rfl (fun K hK => ?_) ?_
      · clear hHeld
        refine owp_call rfl (by kernel_rfl) (args := #[.agg ((noState ch).cells (.slice none 0 0)).toArray, .agg ((noState ch).cells (.slice none 0 0)).toArray]) rfl (pactSame0_ok ch _) ?_
        rintro e w5 ⟨rfl, hc⟩
        replace hS := hS.call0 hc
        try simp only [List.cons_append, List.nil_append, List.append_nil, List.set_cons_zero, List.set_cons_succ] at hS
        clear hc
        refine ⟨_, rfl, ?_⟩
        refine hK.out _ _ ((hS.get 1 rfl).range 0 7 Gs.out) (fun hHeld => ?_)
        clear hK K
        simp only [Act.put, List.setIfInBounds_toArray, List.set_cons_succ, List.set_cons_zero]
        refine htake (i := 5) (v := (.bool true)) rfl (by kernel_rfl) (by kernel_rfl) (by kernel_rfl) (fun _ _ _ h => h) (Or.inl ⟨by rfl, by (intro w hSw; (try dsimp only at hSw); (try obtain hSw := hSw); go_simp; try with_reducible rfl)⟩) (by assumption) ?_; simp only [Act.put, List.setIfInBounds_toArray, List.set_cons_succ, List.set_cons_zero]
        refine wpAnyH_done (by kernel_rfl) ?_ _
        clear hHeld
        go_wp2_with fail
        go_ret
        exact ⟨by simp, hS.pick [] rfl (by decide)⟩
      exact AllReadyH.nil
    exact AllReadyH.nil
  · have h1 : ((ch : Int) != ch') = true := by simp; omega
    have h2 : (ch == ch') = false := by simpa using hcc
    rw [h2]
    clear hcc h2
    go_enter Try.func11, Try.ntmps11
    go_wp2_with (first
      | ((with_reducible show wpList _ _ _ (Oper.mk (some 3) (Op.box _ _) _ _ _ _ :: _) _ _); refine wpl rfl ?_; refine owp_box hS rfl (vs := ks) rfl ?_; clear hS; intro gk _ hS; try simp only [List.cons_append, List.nil_append, List.append_nil, List.set_cons_zero, List.set_cons_succ] at hS)
      | ((with_reducible show wpList _ _ _ (Oper.mk (some 4) (Op.box _ _) _ _ _ _ :: _) _ _); refine wpl rfl ?_; refine owp_box hS rfl (vs := cs) rfl ?_; clear hS; intro gd _ hS; try simp only [List.cons_append, List.nil_append, List.append_nil, List.set_cons_zero, List.set_cons_succ] at hS)
      | ((with_reducible show wpList _ _ _ (Oper.mk (some 9) (Op.load _ _) _ _ _ _ :: _) _ _); refine wpl rfl ?_; refine owp_load1 hS 1 rfl rfl rfl G0.out ?_))
    go_ret
    exact ⟨rfl, hS.pick [] rfl (by decide)⟩

theorem noFar {w : World} {A : List Nat} : Far w A (.slice none 0 0) := fun _ _ _ e => by cases e
theorem noRow {w : World} {n : Nat} : RowR w n (.slice none 0 0) 0 [] := ⟨by simp, .inl ⟨rfl, rfl⟩⟩
theorem noBytes_ok (ch : Nat) (h : ch < 2 ^ 32) (w : World) : Calls Try.prog 8 #[.agg (noCells ch).toArray] w (OPost w none (deedBytes (firstDeed ch))) :=
  deedBytes_ok (firstDeed ch) (firstDeed_ok ch h) _ _ _ w noRow noRow noRow noFar noFar noFar (by simp [firstDeed]) (by simp [firstDeed, Sig.zero]) (by simp [firstDeed, Sig.zero])

def noRoots : List Value := bs (zb 64) ++ [.int .i64 0]
theorem build_roots0 (w : World) : (Instr.build 53 #[]).run Try.prog w = .ok (.agg noRoots.toArray) w := by kernel_rfl
theorem awakeD_ok (w : World) : Calls Try.prog 9 #[] w (TruePost w) := by
  have hS := St.nil w
  have Hf := Lib.hid (first_ok 3)
  have Hlen := Lib.hid (noCells_len 3)
  have Hone := Lib.hid (noCells_one 3)
  have H3 := Lib.hid (fun ks => whole_ok ks 3 3)
  have H4 := Lib.hid (fun ks => whole_ok ks 3 4)
  have Hb := Lib.hid (noBytes_ok 3 (by decide))
  have Hl := Lib.hid (firstDeed_len 3)
  have Hr := Lib.hid build_roots0
  generalize noCells 3 = cs at *
  generalize noRoots = ks at *
  generalize deedBytes (firstDeed 3) = l at *
  go_enter Try.func9, Try.ntmps9
  go_wp2_with fail
  refine (Hf.out _).mono ?_
  rintro e w2 ⟨rfl, hc⟩
  replace hS := hS.call0 hc
  try simp only [List.cons_append, List.nil_append, List.append_nil, List.set_cons_zero, List.set_cons_succ] at hS
  clear hc
  go_wp2_with (first
    | ((with_reducible show wpList _ _ _ (Oper.mk (some 1) (Op.alloc _) _ _ _ _ :: _) _ _); refine wpl rfl ?_; refine (owp_allocAt hS 1 rfl rfl ?_); clear hS; intro gd _ hS; simp only [List.cons_append, List.nil_append] at hS)
    | ((with_reducible show wpList _ _ _ (Oper.mk _ (Op.store _ _ _) _ _ _ _ :: _) _ _); refine wpl rfl ?_; refine (owp_storeW hS 0 rfl rfl rfl rfl (Hlen.out) (Deed.Fit.zero.len _ _ _) (Hone.out) ?_); clear hS; intro _ hS; try simp only [List.cons_append, List.nil_append, List.append_nil, List.set_cons_zero, List.set_cons_succ] at hS)
    | ((with_reducible show wpList _ _ _ (Oper.mk _ (Op.build _ _) _ _ _ _ :: _) _ _); refine wpl rfl ?_; refine owp_build rfl [] rfl (Hr.out _) ?_)
    | ((with_reducible show wpList _ _ _ (Oper.mk _ (Op.load _ _) _ _ _ _ :: _) _ _); refine wpl rfl ?_; refine (owp_loadW hS 0 rfl rfl rfl (Hlen.out) ?_)))
  refine (H3.out ks _).mono ?_
  rintro e w3 ⟨rfl, hc⟩
  replace hS := hS.call0 hc
  try simp only [List.cons_append, List.nil_append, List.append_nil, List.set_cons_zero, List.set_cons_succ] at hS
  clear hc
  go_wp2_with (first
    | ((with_reducible show wpList _ _ _ (Oper.mk _ (Op.build _ _) _ _ _ _ :: _) _ _); refine wpl rfl ?_; refine owp_build rfl [] rfl (Hr.out _) ?_)
    | ((with_reducible show wpList _ _ _ (Oper.mk _ (Op.load _ _) _ _ _ _ :: _) _ _); refine wpl rfl ?_; refine (owp_loadW hS 0 rfl rfl rfl (Hlen.out) ?_)))
  refine (H4.out ks _).mono ?_
  rintro e w4 ⟨rfl, hc⟩
  replace hS := hS.call0 hc
  try simp only [List.cons_append, List.nil_append, List.append_nil, List.set_cons_zero, List.set_cons_succ] at hS
  clear hc
  go_wp2_with (first
    | ((with_reducible show wpList _ _ _ (Oper.mk _ (Op.load _ _) _ _ _ _ :: _) _ _); refine wpl rfl ?_; refine (owp_loadW hS 0 rfl rfl rfl (Hlen.out) ?_)))
  refine (Hb.out _).mono ?_
  rintro e w5 ⟨v5, x5, rfl, hrow5, hc⟩
  replace hS := hS.call0 hc
  try simp only [List.cons_append, List.nil_append, List.append_nil, List.set_cons_zero, List.set_cons_succ] at hS
  clear hc
  rw [Hl.out] at hrow5
  obtain ⟨a5, c5, rfl⟩ := hrow5.isSl
  go_wp2_with fail
  go_ret
  exact ⟨rfl, hS.pick [] rfl (by decide)⟩

end Go.Proofs.Ytldmkafobbemjaa
