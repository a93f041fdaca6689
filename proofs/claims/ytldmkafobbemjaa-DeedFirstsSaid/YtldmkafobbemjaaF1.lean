/-
  The law DeedFirsts answers true, as a call: for any roots and any two channels.
-/
import Derived.Test.YtldmkafobbemjaaC6
import Derived.Test.YtldmkafobbemjaaC1
namespace Go.Proofs.Ytldmkafobbemjaa
set_option linter.unusedSimpArgs false
set_option linter.unusedVariables false
open Go Go.RowKit
set_option maxRecDepth 100000
set_option maxHeartbeats 4000000

instance zeDig2 : ZeroOK Try.prog 51 (bs (zb 64)) := ⟨by kernel_rfl⟩
instance zeRoots : ZeroOK Try.prog 53 noRoots := ⟨by kernel_rfl⟩
theorem fill_dig2 (kb : List UInt8) (h : kb.length = 64) : Instr.fill (fun i => some (i * 32, 32)) (bs (zb 64)).toArray [(0, .agg (bs (kb.take 32)).toArray), (1, .agg (bs (kb.drop 32)).toArray)] = some (bs kb).toArray := by
  have h1 : (bs (kb.take 32)).length = 32 := by rw [bs_length, List.length_take]; omega
  have h2 : (bs (kb.drop 32)).length = 32 := by rw [bs_length, List.length_drop]; omega
  have hz : (bs (zb 64)).length = 64 := by rw [bs_length, zb_length]
  have h3 : ((bs (zb 64)).take (0 * 32) ++ bs (kb.take 32) ++ (bs (zb 64)).drop (0 * 32 + 32)).length = 64 := by simp only [List.length_append, List.length_take, List.length_drop, hz, h1]; omega
  rw [fill_part _ _ _ _ _ (0 * 32) 32 rfl (bs (kb.take 32)) rfl h1 (by omega), fill_part _ _ _ _ _ (1 * 32) 32 rfl (bs (kb.drop 32)) rfl h2 (by omega)]
  have e1 : ((bs (zb 64)).take (0 * 32) ++ bs (kb.take 32) ++ (bs (zb 64)).drop (0 * 32 + 32)).take (1 * 32) = bs (kb.take 32) := by
    rw [show 0 * 32 = 0 by omega, List.take_zero, List.nil_append, show 1 * 32 = 32 by omega, List.take_left' h1]
  have e2 : ((bs (zb 64)).take (0 * 32) ++ bs (kb.take 32) ++ (bs (zb 64)).drop (0 * 32 + 32)).drop (1 * 32 + 32) = [] := List.drop_eq_nil_of_le (by omega)
  rw [e1, e2, List.append_nil, ← bs_append, List.take_append_drop]
  rfl
theorem build_dig2 (kb : List UInt8) (h : kb.length = 64) (w : World) : (Instr.build 51 [(0, .agg (bs (kb.take 32)).toArray), (1, .agg (bs (kb.drop 32)).toArray)].toArray).run Try.prog w = .ok (.agg (bs kb).toArray) w :=
  run_buildA Try.underlying51 (fun w => by kernel_rfl) (fill_dig2 kb h) w
def rootsCells (kb : List UInt8) (t : Int) : List Value := bs kb ++ [.int .i64 t]
theorem rootsCells_len (kb : List UInt8) (t : Int) (h : kb.length = 64) : (rootsCells kb t).length = 65 := by simp [rootsCells, bs_length, h]
theorem rootsCells_one (kb : List UInt8) (t : Int) : ∀ v, v ∈ rootsCells kb t → v.oneCell' = true := by
  intro v hv
  simp only [rootsCells, List.mem_append, List.mem_singleton] at hv
  rcases hv with hv | rfl
  · exact bs_one _ v hv
  · rfl
theorem fill_roots (kb : List UInt8) (t : Int) (h : kb.length = 64) : Instr.fill ((#[(0, 64), (64, 1)] : Array (Nat × Nat))[·]?) noRoots.toArray [(0, .agg (bs kb).toArray), (1, .int .i64 t)] = some (rootsCells kb t).toArray := by
  have h1 : (bs kb).length = 64 := by rw [bs_length, h]
  have hz : (bs (zb 64)).length = 64 := by rw [bs_length, zb_length]
  rw [noRoots, fill_part _ _ _ _ _ 0 64 rfl (bs kb) rfl h1 (by rw [List.length_append, hz]; simp), show 0 + 64 = 64 from rfl, List.drop_left' hz, List.take_zero, List.nil_append, fill1 (off := 64) rfl rfl (by rw [List.length_append, h1]; simp)]
  have e : (bs kb ++ [Value.int .i64 0]).set 64 (.int .i64 t) = rootsCells kb t := by
    rw [List.set_append, if_neg (by omega), h1]; rfl
  rw [e]
  rfl
theorem build_roots (kb : List UInt8) (t : Int) (h : kb.length = 64) (w : World) : (Instr.build 53 [(0, .agg (bs kb).toArray), (1, .int .i64 t)].toArray).run Try.prog w = .ok (.agg (rootsCells kb t).toArray) w :=
  run_build Try.underlying53 (fun w => by kernel_rfl) (fill_roots kb t h) w

theorem roots_ok (kb : List UInt8) (t : Int) (h : kb.length = 64) (w : World) : Calls Try.prog 10 #[.agg (rootsCells kb t).toArray] w (ValPost w (rootsCells kb t)) := by
  have hS := St.nil w
  have h64 : (bs kb).length = 64 := by rw [bs_length, h]
  have Hb := Lib.hid (build_dig2 kb h)
  have Hr := Lib.hid (build_roots kb t h)
  have Hlen := Lib.hid (rootsCells_len kb t h)
  have Hone := Lib.hid (rootsCells_one kb t)
  have G0 := Lib.hid (show ((rootsCells kb t).drop 0).take 32 = bs (kb.take 32) by
    rw [List.drop_zero, rootsCells, List.take_append_of_le_length (by omega), bs_take])
  have G1 := Lib.hid (show ((rootsCells kb t).drop 32).take 32 = bs (kb.drop 32) by
    rw [rootsCells, List.drop_append_of_le_length (by omega), List.take_left' (by rw [List.length_drop]; omega), bs_drop])
  have G2 := Lib.hid (show (rootsCells kb t)[64]? = some (.int .i64 t) by rw [rootsCells, List.getElem?_append_right (by omega), h64]; rfl)
  have L0 := Lib.hid (show (bs (kb.take 32)).length = 32 by rw [bs_length, List.length_take]; omega)
  have L1 := Lib.hid (show (bs (kb.drop 32)).length = 32 by rw [bs_length, List.length_drop]; omega)
  have Lz := Lib.hid (show noRoots.length = 65 by simp [noRoots, bs_length, zb_length])
  clear h64 h
  generalize rootsCells kb t = cs at *
  go_enter Try.func10, Try.ntmps10
  go_wp2_with (first
    | ((with_reducible show wpList _ _ _ (Oper.mk _ (Op.box _ _) _ _ _ _ :: _) _ _); refine wpl rfl ?_; refine owp_box hS rfl (vs := cs) rfl ?_; clear hS; intro gk _ hS; try simp only [List.cons_append, List.nil_append, List.append_nil, List.set_cons_zero, List.set_cons_succ] at hS)
    | ((with_reducible show wpList _ _ _ (Oper.mk (some 2) (Op.alloc _) _ _ _ _ :: _) _ _); refine wpl rfl ?_; refine (owp_allocAt hS 2 rfl rfl ?_); clear hS; intro gr _ hS; simp only [List.cons_append, List.nil_append] at hS)
    | ((with_reducible show wpList _ _ _ (Oper.mk (some 5) (Op.load _ _) _ _ _ _ :: _) _ _); refine wpl rfl ?_; refine owp_load hS 0 rfl rfl rfl G0.out L0.out ?_)
    | ((with_reducible show wpList _ _ _ (Oper.mk (some 8) (Op.load _ _) _ _ _ _ :: _) _ _); refine wpl rfl ?_; refine owp_load hS 0 rfl rfl rfl G1.out L1.out ?_)
    | ((with_reducible show wpList _ _ _ (Oper.mk (some 11) (Op.load _ _) _ _ _ _ :: _) _ _); refine wpl rfl ?_; refine owp_load1 hS 0 rfl rfl rfl G2.out ?_)
    | ((with_reducible show wpList _ _ _ (Oper.mk (some 9) (Op.build _ _) _ _ _ _ :: _) _ _); refine wpl rfl ?_; refine owp_build rfl [(0, .agg (bs (kb.take 32)).toArray), (1, .agg (bs (kb.drop 32)).toArray)] rfl (Hb.out _) ?_)
    | ((with_reducible show wpList _ _ _ (Oper.mk (some 12) (Op.build _ _) _ _ _ _ :: _) _ _); refine wpl rfl ?_; refine owp_build rfl [(0, .agg (bs kb).toArray), (1, .int .i64 t)] rfl (Hr.out _) ?_)
    | ((with_reducible show wpList _ _ _ (Oper.mk _ (Op.store _ _ _) _ _ _ _ :: _) _ _); refine wpl rfl ?_; refine (owp_storeW hS 1 rfl rfl rfl rfl (Hlen.out) (Lz.out) (Hone.out) ?_); clear hS; intro _ hS; try simp only [List.cons_append, List.nil_append, List.append_nil, List.set_cons_zero, List.set_cons_succ] at hS))
  (try simp only [Exit.inBlock, Exit.then]); refine bodyPost_ret (res_cell rfl rfl hS 1 rfl (Hlen.out)) rfl ?_
  exact ⟨rfl, hS.pick [] rfl (by decide)⟩

theorem build_stateCR (ch : Nat) (w : World) : (Instr.build 59 [(0, .int .u32 ch)].toArray).run Try.prog w = .ok (.agg ((noState ch).cells (.slice none 0 0)).toArray) w := by kernel_rfl
theorem build_deedCR (ch : Nat) (w : World) : (Instr.build 69 [(0, .agg ((noState ch).cells (.slice none 0 0)).toArray)].toArray).run Try.prog w = .ok (.agg (noCells ch).toArray) w :=
  run_build Try.underlying69 (fun w => by kernel_rfl) (fill_deed (noState ch) (.slice none 0 0)) w
theorem firstRead_ok (ch : Nat) (h : ch < 2 ^ 32) (u : Value) (w : World) (hu : RowR w 1 u (deedBytes (firstDeed ch)).length (bs (deedBytes (firstDeed ch)))) :
    Calls Try.prog 7 #[u] w (ReadDPost 50 86 (firstDeed ch) 0 w) := by
  have h1 := readDeed_ok u _ w hu (by rw [firstDeed_len]; omega)
  rw [firstDeed_read ch h] at h1
  exact h1
theorem firstDeed_small (ch : Nat) : (firstDeed ch).Small := ⟨⟨by simp [firstDeed], fun c hc => by cases hc⟩, Sig.zero_fit, Sig.zero_fit, by simp [firstDeed, Sig.zero], by simp [firstDeed, Sig.zero]⟩


theorem deedFirsts_ok (kb : List UInt8) (hk : kb.length = 64) (t : Int) (ch ot : Nat) (hch : ch < 2 ^ 32) (w : World) :
    Calls Try.prog 3 #[.agg (rootsCells kb t).toArray, .int .u32 ch, .int .u32 ot] w (TruePost w) := by
  have hS := St.nil w
  have Hf := Lib.hid (first_ok ch)
  have Hlen := Lib.hid (noCells_len ch)
  have Hone := Lib.hid (noCells_one ch)
  have G1 := Lib.hid (noCells_1 ch)
  have Hroots := Lib.hid (roots_ok kb t hk)
  have Hkl := Lib.hid (rootsCells_len kb t hk)
  have Hw1 := Lib.hid (show ∀ w', Calls Try.prog 11 #[.agg (rootsCells kb t).toArray, .agg (noCells ch).toArray, .int .u32 ch] w' (TruePost w') from fun w' => (whole_ok _ ch ch w').mono (fun e w2 h => ⟨by rw [h.1]; simp, h.2⟩))
  have Hw2 := Lib.hid (fun w' => whole_ok (rootsCells kb t) ch ot w')
  have Hbytes := Lib.hid (noBytes_ok ch hch)
  have Hread := Lib.hid (fun u w' h => firstRead_ok ch hch u w' h)
  have Hl := Lib.hid (firstDeed_len ch)
  have Hbd := Lib.hid (build_deedCR ch)
  have Hno := Lib.hid (show (firstDeed ch).cells (.slice none 0 0) (.slice none 0 0) (.slice none 0 0) = noCells ch from rfl)
  have Hxl := Lib.hid (fun cv av bv => show ((firstDeed ch).cells cv av bv).length = 2059 from Deed.Fit.len (d := firstDeed ch) Deed.Fit.zero' cv av bv)
  have Hx1 := Lib.hid (fun cv av bv h1 h2 h3 => Deed.one (firstDeed ch) cv av bv h1 h2 h3)
  generalize noCells ch = cs at *
  generalize rootsCells kb t = ks at *
  generalize deedBytes (firstDeed ch) = l at *
  clear hk hch
  go_enter Try.func3, Try.ntmps3
  go_wp2_with (first
    | ((with_reducible show wpList _ _ _ (Oper.mk _ (Op.box _ _) _ _ _ _ :: _) _ _); refine wpl rfl ?_; refine owp_box hS rfl (vs := ks) rfl ?_; clear hS; intro gk _ hS; try simp only [List.cons_append, List.nil_append, List.append_nil, List.set_cons_zero, List.set_cons_succ] at hS))
  refine (Hf.out _).mono ?_
  rintro e w2 ⟨rfl, hc⟩
  replace hS := hS.call0 hc
  try simp only [List.cons_append, List.nil_append, List.append_nil, List.set_cons_zero, List.set_cons_succ] at hS
  clear hc
  go_wp2_with (first
    | ((with_reducible show wpList _ _ _ (Oper.mk (some 7) (Op.alloc _) _ _ _ _ :: _) _ _); refine wpl rfl ?_; refine (owp_allocAt hS 7 rfl rfl ?_); clear hS; intro gd _ hS; simp only [List.cons_append, List.nil_append] at hS)
    | ((with_reducible show wpList _ _ _ (Oper.mk _ (Op.store _ _ _) _ _ _ _ :: _) _ _); refine wpl rfl ?_; refine (owp_storeW hS 1 rfl rfl rfl rfl (Hlen.out) (Deed.Fit.zero.len _ _ _) (Hone.out) ?_); clear hS; intro _ hS; try simp only [List.cons_append, List.nil_append, List.append_nil, List.set_cons_zero, List.set_cons_succ] at hS)
    | ((with_reducible show wpList _ _ _ (Oper.mk _ (Op.load _ _) _ _ _ _ :: _) _ _); refine wpl rfl ?_; refine (owp_loadW hS 1 rfl rfl rfl (Hlen.out) ?_)))
  refine (Hbytes.out _).mono ?_
  rintro e w3 ⟨v3, x3, rfl, hrow3, hc⟩
  replace hS := hS.call0 hc
  try simp only [List.cons_append, List.nil_append, List.append_nil, List.set_cons_zero, List.set_cons_succ] at hS
  clear hc
  rw [Hl.out] at hrow3
  obtain ⟨a0, c0, rfl⟩ := hrow3.isSl
  have Hrow3 := Lib.hid hrow3
  clear hrow3
  go_wp2_with fail
  refine (Hread.out _ _ (by rw [Hl.out]; exact Hrow3.out.read (hS.get 2 rfl))).mono ?_
  rintro e w4 ⟨cv, av, bv, rx, ry, rz, rfl, hc, hx, hy, hz⟩
  replace hS := hS.call0 hc
  try simp only [List.cons_append, List.nil_append, List.append_nil, List.set_cons_zero, List.set_cons_succ] at hS
  clear hc
  obtain ⟨a1, c1, rfl⟩ := hx.isSl
  obtain ⟨a2, c2, rfl⟩ := hy.isSl
  obtain ⟨a3, c3, rfl⟩ := hz.isSl
  have Hrx := Lib.hid hx
  have Hry := Lib.hid hy
  have Hrz := Lib.hid hz
  clear hx hy hz
  go_wp2_with (first
    | ((with_reducible show wpList _ _ _ (Oper.mk (some 8) (Op.alloc _) _ _ _ _ :: _) _ _); refine wpl rfl ?_; refine (owp_allocAt hS 8 rfl rfl ?_); clear hS; intro gx _ hS; simp only [List.cons_append, List.nil_append] at hS)
    | ((with_reducible show wpList _ _ _ (Oper.mk _ (Op.store _ _ _) _ _ _ _ :: _) _ _); refine wpl rfl ?_; refine (owp_storeW hS 6 rfl rfl rfl rfl (Hxl.out _ _ _) (Deed.Fit.zero.len _ _ _) (Hx1.out _ _ _ rfl rfl rfl) ?_); clear hS; intro _ hS; try simp only [List.cons_append, List.nil_append, List.append_nil, List.set_cons_zero, List.set_cons_succ] at hS))
  replace hS := hS.pick (L' := [some (gk, ks, 25), x3, some (gd, cs, 42), rx, ry, rz, some (gx, (firstDeed ch).cells (.slice a1 0 c1) (.slice a2 0 c2) (.slice a3 0 c3), 42)]) [0, 2, 1, 3, 4, 5, 6] rfl (by decide)
  by_cases hco : ch = ot
  · have hb1 : ((ch : Int) == ot) = true := by simp [hco]
    replace hS := hS.drew
    refine wp_region_held_drew (S := (fun w' => CellsAt w' ⟨gk, 0, none⟩ ks ∧ CellsAt w' ⟨gd, 0, none⟩ cs ∧ CellsAt w' ⟨gx, 0, none⟩ ((firstDeed ch).cells (.slice a1 0 c1) (.slice a2 0 c2) (.slice a3 0 c3)) ∧ w'.cell? ⟨gd, 1, none⟩ = some (.int .u64 0))) (by kernel_rfl) ⟨(hS.get 0 rfl).range 0 65 (by rw [List.drop_zero, List.take_of_length_le (Nat.le_of_eq Hkl.out)]), (hS.get 2 rfl).range 0 2059 (by rw [List.drop_zero, List.take_of_length_le (Nat.le_of_eq Hlen.out)]), (hS.get 6 rfl).range 0 2059 (by rw [List.drop_zero, List.take_of_length_le (Nat.le_of_eq (Hxl.out _ _ _))]), (hS.get 2 rfl).cell 1 G1.out⟩ (fun hHeld => ?_)
    refine wpAnyH_ready (rs := [0]) (by kernel_rfl) (by simp) ?_
    refine hcons rfl rfl (fun K hK => ?_) ?_
    · clear hHeld
      refine owp_call rfl (by kernel_rfl) (args := #[]) rfl (awakeD_ok _) ?_
      rintro e w6 ⟨rfl, hc⟩
      replace hS := hS.call0 hc
      try simp only [List.cons_append, List.nil_append, List.append_nil, List.set_cons_zero, List.set_cons_succ] at hS
      clear hc
      refine ⟨_, rfl, ?_⟩
      refine hK.out _ _ ⟨(hS.get 0 rfl).range 0 65 (by rw [List.drop_zero, List.take_of_length_le (Nat.le_of_eq Hkl.out)]), (hS.get 2 rfl).range 0 2059 (by rw [List.drop_zero, List.take_of_length_le (Nat.le_of_eq Hlen.out)]), (hS.get 6 rfl).range 0 2059 (by rw [List.drop_zero, List.take_of_length_le (Nat.le_of_eq (Hxl.out _ _ _))]), (hS.get 2 rfl).cell 1 G1.out⟩ (fun hHeld => ?_)
      clear hK K
      simp only [Act.put, List.setIfInBounds_toArray, List.set_cons_succ, List.set_cons_zero]
      refine htake (i := 1) (v := (.bool true)) rfl (by kernel_rfl) (by kernel_rfl) (by kernel_rfl) (fun _ _ _ h => h) (Or.inl ⟨by rfl, by (intro w hSw; (try dsimp only at hSw); (try obtain ⟨_, _, _, h4⟩ := hSw); go_simp; try with_reducible rfl)⟩) (by assumption) ?_; simp only [Act.put, List.setIfInBounds_toArray, List.set_cons_succ, List.set_cons_zero]
      refine htake (i := 2) (v := (.agg ks.toArray)) rfl (by kernel_rfl) (by kernel_rfl) (by kernel_rfl) (fun _ _ _ h => h) (Or.inl ⟨by rfl, yl_loadR rfl rfl Hkl.out (fun _ h => h.1)⟩) (by assumption) ?_; simp only [Act.put, List.setIfInBounds_toArray, List.set_cons_succ, List.set_cons_zero]
      refine htake (i := 4) (v := (.agg cs.toArray)) rfl (by kernel_rfl) (by kernel_rfl) (by kernel_rfl) (fun _ _ _ h => h) (Or.inl ⟨by rfl, yl_loadR rfl rfl Hlen.out (fun _ h => h.2.1)⟩) (by assumption) ?_; simp only [Act.put, List.setIfInBounds_toArray, List.set_cons_succ, List.set_cons_zero]
      refine htake (i := 5) (v := (.int .u32 ch)) rfl (by kernel_rfl) (by kernel_rfl) (by kernel_rfl) (fun _ _ _ h => h) (Or.inl ⟨by rfl, by (intro w hSw; (try dsimp only at hSw); (try obtain ⟨_, _, _, h4⟩ := hSw); go_simp; try with_reducible rfl)⟩) (by assumption) ?_; simp only [Act.put, List.setIfInBounds_toArray, List.set_cons_succ, List.set_cons_zero]
      refine wpAnyH_ready (rs := [3]) (by kernel_rfl) (by simp) ?_
      refine hcons rfl rfl (fun K hK => ?_) ?_
      · clear hHeld
        refine owp_call rfl (by kernel_rfl) (args := #[.agg ks.toArray]) rfl (Hroots.out _) ?_
        rintro e w7 ⟨rfl, hc⟩
        replace hS := hS.call0 hc
        try simp only [List.cons_append, List.nil_append, List.append_nil, List.set_cons_zero, List.set_cons_succ] at hS
        clear hc
        refine ⟨_, rfl, ?_⟩
        refine hK.out _ _ ⟨(hS.get 0 rfl).range 0 65 (by rw [List.drop_zero, List.take_of_length_le (Nat.le_of_eq Hkl.out)]), (hS.get 2 rfl).range 0 2059 (by rw [List.drop_zero, List.take_of_length_le (Nat.le_of_eq Hlen.out)]), (hS.get 6 rfl).range 0 2059 (by rw [List.drop_zero, List.take_of_length_le (Nat.le_of_eq (Hxl.out _ _ _))]), (hS.get 2 rfl).cell 1 G1.out⟩ (fun hHeld => ?_)
        clear hK K
        simp only [Act.put, List.setIfInBounds_toArray, List.set_cons_succ, List.set_cons_zero]
        refine wpAnyH_ready (rs := [6]) (by kernel_rfl) (by simp) ?_
        refine hcons rfl rfl (fun K hK => ?_) ?_
        · clear hHeld
          refine owp_call rfl (by kernel_rfl) (args := #[.agg ks.toArray, .agg cs.toArray, .int .u32 ch]) rfl (Hw1.out _) ?_
          rintro e w8 ⟨rfl, hc⟩
          replace hS := hS.call0 hc
          try simp only [List.cons_append, List.nil_append, List.append_nil, List.set_cons_zero, List.set_cons_succ] at hS
          clear hc
          refine ⟨_, rfl, ?_⟩
          refine hK.out _ _ ⟨(hS.get 0 rfl).range 0 65 (by rw [List.drop_zero, List.take_of_length_le (Nat.le_of_eq Hkl.out)]), (hS.get 2 rfl).range 0 2059 (by rw [List.drop_zero, List.take_of_length_le (Nat.le_of_eq Hlen.out)]), (hS.get 6 rfl).range 0 2059 (by rw [List.drop_zero, List.take_of_length_le (Nat.le_of_eq (Hxl.out _ _ _))]), (hS.get 2 rfl).cell 1 G1.out⟩ (fun hHeld => ?_)
          clear hK K
          simp only [Act.put, List.setIfInBounds_toArray, List.set_cons_succ, List.set_cons_zero]
          refine htake (i := 7) (v := (.bool true)) rfl (by kernel_rfl) (by kernel_rfl) (by kernel_rfl) (fun _ _ _ h => h) (Or.inl ⟨by rfl, by (intro w hSw; (try dsimp only at hSw); (try obtain ⟨_, _, _, h4⟩ := hSw); go_simp; try with_reducible rfl)⟩) (by assumption) ?_; simp only [Act.put, List.setIfInBounds_toArray, List.set_cons_succ, List.set_cons_zero]
          refine htake (i := 8) (v := (.bool true)) rfl (by kernel_rfl) (by kernel_rfl) (by kernel_rfl) (fun _ _ _ h => h) (Or.inl ⟨by rfl, by (intro w hSw; (try dsimp only at hSw); (try obtain ⟨_, _, _, h4⟩ := hSw); go_simp; try with_reducible rfl)⟩) (by assumption) ?_; simp only [Act.put, List.setIfInBounds_toArray, List.set_cons_succ, List.set_cons_zero]
          refine htake (i := 9) (v := (.int .u32 ch)) rfl (by kernel_rfl) (by kernel_rfl) (by kernel_rfl) (fun _ _ _ h => h) (Or.inl ⟨by rfl, by (intro w hSw; (try dsimp only at hSw); (try obtain ⟨_, _, _, h4⟩ := hSw); go_simp; try with_reducible rfl)⟩) (by assumption) ?_; simp only [Act.put, List.setIfInBounds_toArray, List.set_cons_succ, List.set_cons_zero]
          refine htake (i := 10) (v := (.int .u32 ot)) rfl (by kernel_rfl) (by kernel_rfl) (by kernel_rfl) (fun _ _ _ h => h) (Or.inl ⟨by rfl, by (intro w hSw; (try dsimp only at hSw); (try obtain ⟨_, _, _, h4⟩ := hSw); go_simp; try with_reducible rfl)⟩) (by assumption) ?_; simp only [Act.put, List.setIfInBounds_toArray, List.set_cons_succ, List.set_cons_zero]
          refine htake (i := 11) (v := (.bool true)) rfl (by kernel_rfl) (by kernel_rfl) (by kernel_rfl) (fun _ _ _ h => h) (Or.inl ⟨by rfl, by (intro w hSw; (try dsimp only at hSw); (try obtain ⟨_, _, _, h4⟩ := hSw); go_simp; try with_reducible rfl)⟩) (by assumption) ?_; simp only [Act.put, List.setIfInBounds_toArray, List.set_cons_succ, List.set_cons_zero]
          refine htake (i := 12) (v := (.bool true)) rfl (by kernel_rfl) (by kernel_rfl) (by kernel_rfl) (fun _ _ _ h => h) (Or.inl ⟨by rfl, by (intro w hSw; (try dsimp only at hSw); (try obtain ⟨_, _, _, h4⟩ := hSw); go_simp; try with_reducible rfl)⟩) (by assumption) ?_; simp only [Act.put, List.setIfInBounds_toArray, List.set_cons_succ, List.set_cons_zero]
          refine htake (i := 13) (v := undef) rfl (by kernel_rfl) (by kernel_rfl) (by kernel_rfl) (fun _ _ _ h => h) (Or.inr ⟨by rfl, rfl⟩) (by assumption) ?_; simp only [Act.put, List.setIfInBounds_toArray, List.set_cons_succ, List.set_cons_zero]
          refine htake (i := 14) (v := undef) rfl (by kernel_rfl) (by kernel_rfl) (by kernel_rfl) (fun _ _ _ h => h) (Or.inr ⟨by rfl, rfl⟩) (by assumption) ?_; simp only [Act.put, List.setIfInBounds_toArray, List.set_cons_succ, List.set_cons_zero]
          refine htake (i := 15) (v := undef) rfl (by kernel_rfl) (by kernel_rfl) (by kernel_rfl) (fun _ _ _ h => h) (Or.inr ⟨by rfl, rfl⟩) (by assumption) ?_; simp only [Act.put, List.setIfInBounds_toArray, List.set_cons_succ, List.set_cons_zero]
          refine htake (i := 16) (v := undef) rfl (by kernel_rfl) (by kernel_rfl) (by kernel_rfl) (fun _ _ _ h => h) (Or.inr ⟨by rfl, rfl⟩) (by assumption) ?_; simp only [Act.put, List.setIfInBounds_toArray, List.set_cons_succ, List.set_cons_zero]
          refine htake (i := 17) (v := undef) rfl (by kernel_rfl) (by kernel_rfl) (by kernel_rfl) (fun _ _ _ h => h) (Or.inr ⟨by rfl, rfl⟩) (by assumption) ?_; simp only [Act.put, List.setIfInBounds_toArray, List.set_cons_succ, List.set_cons_zero]
          refine htake (i := 18) (v := undef) rfl (by kernel_rfl) (by kernel_rfl) (by kernel_rfl) (fun _ _ _ h => h) (Or.inr ⟨by rfl, rfl⟩) (by assumption) ?_; simp only [Act.put, List.setIfInBounds_toArray, List.set_cons_succ, List.set_cons_zero]
          refine htake (i := 19) (v := (.bool true)) rfl (by kernel_rfl) (by kernel_rfl) (by kernel_rfl) (fun _ _ _ h => h) (Or.inl ⟨by rfl, by (intro w hSw; (try dsimp only at hSw); (try obtain ⟨_, _, _, h4⟩ := hSw); go_simp; try with_reducible rfl)⟩) (by assumption) ?_; simp only [Act.put, List.setIfInBounds_toArray, List.set_cons_succ, List.set_cons_zero]
          refine htake (i := 20) (v := (.bool true)) rfl (by kernel_rfl) (by kernel_rfl) (by kernel_rfl) (fun _ _ _ h => h) (Or.inl ⟨by rfl, by (intro w hSw; (try dsimp only at hSw); (try obtain ⟨_, _, _, h4⟩ := hSw); go_simp; try with_reducible rfl)⟩) (by assumption) ?_; simp only [Act.put, List.setIfInBounds_toArray, List.set_cons_succ, List.set_cons_zero]
          refine htake (i := 21) (v := (.bool true)) rfl (by kernel_rfl) (by kernel_rfl) (by kernel_rfl) (fun _ _ _ h => h) (Or.inl ⟨by rfl, by (intro w hSw; (try dsimp only at hSw); (try obtain ⟨_, _, _, h4⟩ := hSw); go_simp; try with_reducible rfl)⟩) (by assumption) ?_; simp only [Act.put, List.setIfInBounds_toArray, List.set_cons_succ, List.set_cons_zero]
          refine htake (i := 22) (v := (.int .i64 0)) rfl (by kernel_rfl) (by kernel_rfl) (by kernel_rfl) (fun _ _ _ h => h) (Or.inl ⟨by rfl, by (intro w hSw; (try dsimp only at hSw); (try obtain ⟨_, _, _, h4⟩ := hSw); go_simp; try with_reducible rfl)⟩) (by assumption) ?_; simp only [Act.put, List.setIfInBounds_toArray, List.set_cons_succ, List.set_cons_zero]
          refine htake (i := 23) (v := (.bool true)) rfl (by kernel_rfl) (by kernel_rfl) (by kernel_rfl) (fun _ _ _ h => h) (Or.inl ⟨by rfl, by (intro w hSw; (try dsimp only at hSw); (try obtain ⟨_, _, _, h4⟩ := hSw); go_simp; try with_reducible rfl)⟩) (by assumption) ?_; simp only [Act.put, List.setIfInBounds_toArray, List.set_cons_succ, List.set_cons_zero]
          refine htake (i := 24) (v := (.bool true)) rfl (by kernel_rfl) (by kernel_rfl) (by kernel_rfl) (fun _ _ _ h => h) (Or.inl ⟨by rfl, by (intro w hSw; (try dsimp only at hSw); (try obtain ⟨_, _, _, h4⟩ := hSw); go_simp; try with_reducible rfl)⟩) (by assumption) ?_; simp only [Act.put, List.setIfInBounds_toArray, List.set_cons_succ, List.set_cons_zero]
          refine htake (i := 25) (v := (.bool true)) rfl (by kernel_rfl) (by kernel_rfl) (by kernel_rfl) (fun _ _ _ h => h) (Or.inl ⟨by rfl, by (intro w hSw; (try dsimp only at hSw); (try obtain ⟨_, _, _, h4⟩ := hSw); go_simp; try with_reducible rfl)⟩) (by assumption) ?_; simp only [Act.put, List.setIfInBounds_toArray, List.set_cons_succ, List.set_cons_zero]
          refine htake (i := 26) (v := (.agg ((firstDeed ch).cells (.slice a1 0 c1) (.slice a2 0 c2) (.slice a3 0 c3)).toArray)) rfl (by kernel_rfl) (by kernel_rfl) (by kernel_rfl) (fun _ _ _ h => h) (Or.inl ⟨by rfl, yl_loadR rfl rfl (Hxl.out _ _ _) (fun _ h => h.2.2.1)⟩) (by assumption) ?_; simp only [Act.put, List.setIfInBounds_toArray, List.set_cons_succ, List.set_cons_zero]
          refine htake (i := 28) (v := (.int .u32 ch)) rfl (by kernel_rfl) (by kernel_rfl) (by kernel_rfl) (fun _ _ _ h => h) (Or.inl ⟨by rfl, by (intro w hSw; (try dsimp only at hSw); (try obtain ⟨_, _, _, h4⟩ := hSw); go_simp; try with_reducible rfl)⟩) (by assumption) ?_; simp only [Act.put, List.setIfInBounds_toArray, List.set_cons_succ, List.set_cons_zero]
          refine htake (i := 29) (v := (.agg ((noState ch).cells (.slice none 0 0)).toArray)) rfl (by kernel_rfl) (by kernel_rfl) (by kernel_rfl) (fun _ _ _ h => h) (Or.inl ⟨by rfl, yl_build rfl [(0, .int .u32 ch)] rfl (build_stateCR ch)⟩) (by assumption) ?_; simp only [Act.put, List.setIfInBounds_toArray, List.set_cons_succ, List.set_cons_zero]
          refine htake (i := 30) (v := (.agg cs.toArray)) rfl (by kernel_rfl) (by kernel_rfl) (by kernel_rfl) (fun _ _ _ h => h) (Or.inl ⟨by rfl, yl_build rfl [(0, .agg ((noState ch).cells (.slice none 0 0)).toArray)] rfl Hbd.out⟩) (by assumption) ?_; simp only [Act.put, List.setIfInBounds_toArray, List.set_cons_succ, List.set_cons_zero]
          refine wpAnyH_ready (rs := [27]) (by kernel_rfl) (by simp) ?_
          refine hcons rfl rfl (fun K hK => ?_) ?_
          · clear hHeld
            have hcall := deedFrom_ok (firstDeed ch) (firstDeed_small ch) (.slice a1 0 c1) (.slice a2 0 c2) (.slice a3 0 c3) _ (Hrx.out.read (hS.get 3 rfl)) (Hry.out.read (hS.get 4 rfl)) (Hrz.out.read (hS.get 5 rfl))
            refine owp_call rfl (by kernel_rfl) (args := #[.agg ((firstDeed ch).cells (.slice a1 0 c1) (.slice a2 0 c2) (.slice a3 0 c3)).toArray]) rfl hcall ?_
            clear hcall
            rintro e w9 ⟨cv4, av4, bv4, x4, y4, z4, rfl, hc, hx4, hy4, hz4⟩
            replace hS := hS.call0 hc
            try simp only [List.cons_append, List.nil_append, List.append_nil, List.set_cons_zero, List.set_cons_succ] at hS
            clear hc
            refine ⟨_, rfl, ?_⟩
            refine hK.out _ _ ⟨(hS.get 0 rfl).range 0 65 (by rw [List.drop_zero, List.take_of_length_le (Nat.le_of_eq Hkl.out)]), (hS.get 2 rfl).range 0 2059 (by rw [List.drop_zero, List.take_of_length_le (Nat.le_of_eq Hlen.out)]), (hS.get 6 rfl).range 0 2059 (by rw [List.drop_zero, List.take_of_length_le (Nat.le_of_eq (Hxl.out _ _ _))]), (hS.get 2 rfl).cell 1 G1.out⟩ (fun hHeld => ?_)
            clear hK K
            simp only [Act.put, List.setIfInBounds_toArray, List.set_cons_succ, List.set_cons_zero]
            refine wpAnyH_ready (rs := [31]) (by kernel_rfl) (by simp) ?_
            refine hcons rfl rfl (fun K hK => ?_) ?_
            · clear hHeld
              have hcall := deedSame_ok (firstDeed ch) (firstDeed_small ch) cv4 av4 bv4 (.slice none 0 0) (.slice none 0 0) (.slice none 0 0) _ (hx4.read (hS.get 7 rfl)) (hy4.read (hS.get 8 rfl)) (hz4.read (hS.get 9 rfl)) noRow noRow noRow
              rw [Hno.out] at hcall
              refine owp_call rfl (by kernel_rfl) (args := #[.agg ((firstDeed ch).cells cv4 av4 bv4).toArray, .agg cs.toArray]) rfl hcall ?_
              clear hcall
              rintro e w10 ⟨rfl, hc⟩
              replace hS := hS.call0 hc
              try simp only [List.cons_append, List.nil_append, List.append_nil, List.set_cons_zero, List.set_cons_succ] at hS
              clear hc hx4 hy4 hz4
              refine ⟨_, rfl, ?_⟩
              refine hK.out _ _ ⟨(hS.get 0 rfl).range 0 65 (by rw [List.drop_zero, List.take_of_length_le (Nat.le_of_eq Hkl.out)]), (hS.get 2 rfl).range 0 2059 (by rw [List.drop_zero, List.take_of_length_le (Nat.le_of_eq Hlen.out)]), (hS.get 6 rfl).range 0 2059 (by rw [List.drop_zero, List.take_of_length_le (Nat.le_of_eq (Hxl.out _ _ _))]), (hS.get 2 rfl).cell 1 G1.out⟩ (fun hHeld => ?_)
              clear hK K
              simp only [Act.put, List.setIfInBounds_toArray, List.set_cons_succ, List.set_cons_zero]
              refine htake (i := 32) (v := (.bool true)) rfl (by kernel_rfl) (by kernel_rfl) (by kernel_rfl) (fun _ _ _ h => h) (Or.inl ⟨by rfl, by (intro w hSw; (try dsimp only at hSw); (try obtain ⟨_, _, _, h4⟩ := hSw); go_simp; try with_reducible rfl)⟩) (by assumption) ?_; simp only [Act.put, List.setIfInBounds_toArray, List.set_cons_succ, List.set_cons_zero]
              refine htake (i := 33) (v := (.bool true)) rfl (by kernel_rfl) (by kernel_rfl) (by kernel_rfl) (fun _ _ _ h => h) (Or.inl ⟨by rfl, by (intro w hSw; (try dsimp only at hSw); (try obtain ⟨_, _, _, h4⟩ := hSw); go_simp; try with_reducible rfl)⟩) (by assumption) ?_; simp only [Act.put, List.setIfInBounds_toArray, List.set_cons_succ, List.set_cons_zero]
              refine htake (i := 34) (v := (.pointer (some ⟨gd, 0, none⟩))) rfl (by kernel_rfl) (by kernel_rfl) (by kernel_rfl) (fun _ _ _ h => h) (Or.inl ⟨by rfl, by (intro w hSw; (try dsimp only at hSw); (try obtain ⟨_, _, _, h4⟩ := hSw); go_simp; try with_reducible rfl)⟩) (by assumption) ?_; simp only [Act.put, List.setIfInBounds_toArray, List.set_cons_succ, List.set_cons_zero]
              refine htake (i := 35) (v := (.pointer (some ⟨gd, 1, none⟩))) rfl (by kernel_rfl) (by kernel_rfl) (by kernel_rfl) (fun _ _ _ h => h) (Or.inl ⟨by rfl, by (intro w hSw; (try dsimp only at hSw); (try obtain ⟨_, _, _, h4⟩ := hSw); go_simp; try with_reducible rfl)⟩) (by assumption) ?_; simp only [Act.put, List.setIfInBounds_toArray, List.set_cons_succ, List.set_cons_zero]
              refine htake (i := 36) (v := (.int .u64 0)) rfl (by kernel_rfl) (by kernel_rfl) (by kernel_rfl) (fun _ _ _ h => h) (Or.inl ⟨by rfl, by (intro w hSw; (try dsimp only at hSw); (try obtain ⟨_, _, _, h4⟩ := hSw); go_simp; try with_reducible rfl)⟩) (by assumption) ?_; simp only [Act.put, List.setIfInBounds_toArray, List.set_cons_succ, List.set_cons_zero]
              refine htake (i := 37) (v := (.bool true)) rfl (by kernel_rfl) (by kernel_rfl) (by kernel_rfl) (fun _ _ _ h => h) (Or.inl ⟨by rfl, by (intro w hSw; (try dsimp only at hSw); (try obtain ⟨_, _, _, h4⟩ := hSw); go_simp; try with_reducible rfl)⟩) (by assumption) ?_; simp only [Act.put, List.setIfInBounds_toArray, List.set_cons_succ, List.set_cons_zero]
              refine htake (i := 38) (v := (.bool true)) rfl (by kernel_rfl) (by kernel_rfl) (by kernel_rfl) (fun _ _ _ h => h) (Or.inl ⟨by rfl, by (intro w hSw; (try dsimp only at hSw); (try obtain ⟨_, _, _, h4⟩ := hSw); go_simp; try with_reducible rfl)⟩) (by assumption) ?_; simp only [Act.put, List.setIfInBounds_toArray, List.set_cons_succ, List.set_cons_zero]
              refine htake (i := 39) (v := (.bool true)) rfl (by kernel_rfl) (by kernel_rfl) (by kernel_rfl) (fun _ _ _ h => h) (Or.inl ⟨by rfl, by (intro w hSw; (try dsimp only at hSw); (try obtain ⟨_, _, _, h4⟩ := hSw); go_simp; try with_reducible rfl)⟩) (by assumption) ?_; simp only [Act.put, List.setIfInBounds_toArray, List.set_cons_succ, List.set_cons_zero]
              refine wpAnyH_done (by kernel_rfl) ?_ _
              clear hHeld
              go_wp2_with fail
              go_ret
              exact ⟨rfl, hS.pick [] rfl (by decide)⟩
            exact AllReadyH.nil
          exact AllReadyH.nil
        exact AllReadyH.nil
      exact AllReadyH.nil
    exact AllReadyH.nil
  · have hb1 : ((ch : Int) == ot) = false := by simp; omega
    have hb2 : (ch == ot) = false := by simpa using hco
    rw [hb2] at Hw2
    clear hb2 hco
    replace hS := hS.drew
    refine wp_region_held_drew (S := (fun w' => CellsAt w' ⟨gk, 0, none⟩ ks ∧ CellsAt w' ⟨gd, 0, none⟩ cs ∧ CellsAt w' ⟨gx, 0, none⟩ ((firstDeed ch).cells (.slice a1 0 c1) (.slice a2 0 c2) (.slice a3 0 c3)) ∧ w'.cell? ⟨gd, 1, none⟩ = some (.int .u64 0))) (by kernel_rfl) ⟨(hS.get 0 rfl).range 0 65 (by rw [List.drop_zero, List.take_of_length_le (Nat.le_of_eq Hkl.out)]), (hS.get 2 rfl).range 0 2059 (by rw [List.drop_zero, List.take_of_length_le (Nat.le_of_eq Hlen.out)]), (hS.get 6 rfl).range 0 2059 (by rw [List.drop_zero, List.take_of_length_le (Nat.le_of_eq (Hxl.out _ _ _))]), (hS.get 2 rfl).cell 1 G1.out⟩ (fun hHeld => ?_)
    refine wpAnyH_ready (rs := [0]) (by kernel_rfl) (by simp) ?_
    refine hcons rfl rfl (fun K hK => ?_) ?_
    · clear hHeld
      refine owp_call rfl (by kernel_rfl) (args := #[]) rfl (awakeD_ok _) ?_
      rintro e w6 ⟨rfl, hc⟩
      replace hS := hS.call0 hc
      try simp only [List.cons_append, List.nil_append, List.append_nil, List.set_cons_zero, List.set_cons_succ] at hS
      clear hc
      refine ⟨_, rfl, ?_⟩
      refine hK.out _ _ ⟨(hS.get 0 rfl).range 0 65 (by rw [List.drop_zero, List.take_of_length_le (Nat.le_of_eq Hkl.out)]), (hS.get 2 rfl).range 0 2059 (by rw [List.drop_zero, List.take_of_length_le (Nat.le_of_eq Hlen.out)]), (hS.get 6 rfl).range 0 2059 (by rw [List.drop_zero, List.take_of_length_le (Nat.le_of_eq (Hxl.out _ _ _))]), (hS.get 2 rfl).cell 1 G1.out⟩ (fun hHeld => ?_)
      clear hK K
      simp only [Act.put, List.setIfInBounds_toArray, List.set_cons_succ, List.set_cons_zero]
      refine htake (i := 1) (v := (.bool true)) rfl (by kernel_rfl) (by kernel_rfl) (by kernel_rfl) (fun _ _ _ h => h) (Or.inl ⟨by rfl, by (intro w hSw; (try dsimp only at hSw); (try obtain ⟨_, _, _, h4⟩ := hSw); go_simp; try with_reducible rfl)⟩) (by assumption) ?_; simp only [Act.put, List.setIfInBounds_toArray, List.set_cons_succ, List.set_cons_zero]
      refine htake (i := 2) (v := (.agg ks.toArray)) rfl (by kernel_rfl) (by kernel_rfl) (by kernel_rfl) (fun _ _ _ h => h) (Or.inl ⟨by rfl, yl_loadR rfl rfl Hkl.out (fun _ h => h.1)⟩) (by assumption) ?_; simp only [Act.put, List.setIfInBounds_toArray, List.set_cons_succ, List.set_cons_zero]
      refine htake (i := 4) (v := (.agg cs.toArray)) rfl (by kernel_rfl) (by kernel_rfl) (by kernel_rfl) (fun _ _ _ h => h) (Or.inl ⟨by rfl, yl_loadR rfl rfl Hlen.out (fun _ h => h.2.1)⟩) (by assumption) ?_; simp only [Act.put, List.setIfInBounds_toArray, List.set_cons_succ, List.set_cons_zero]
      refine htake (i := 5) (v := (.int .u32 ch)) rfl (by kernel_rfl) (by kernel_rfl) (by kernel_rfl) (fun _ _ _ h => h) (Or.inl ⟨by rfl, by (intro w hSw; (try dsimp only at hSw); (try obtain ⟨_, _, _, h4⟩ := hSw); go_simp; try with_reducible rfl)⟩) (by assumption) ?_; simp only [Act.put, List.setIfInBounds_toArray, List.set_cons_succ, List.set_cons_zero]
      refine wpAnyH_ready (rs := [3]) (by kernel_rfl) (by simp) ?_
      refine hcons rfl rfl (fun K hK => ?_) ?_
      · clear hHeld
        refine owp_call rfl (by kernel_rfl) (args := #[.agg ks.toArray]) rfl (Hroots.out _) ?_
        rintro e w7 ⟨rfl, hc⟩
        replace hS := hS.call0 hc
        try simp only [List.cons_append, List.nil_append, List.append_nil, List.set_cons_zero, List.set_cons_succ] at hS
        clear hc
        refine ⟨_, rfl, ?_⟩
        refine hK.out _ _ ⟨(hS.get 0 rfl).range 0 65 (by rw [List.drop_zero, List.take_of_length_le (Nat.le_of_eq Hkl.out)]), (hS.get 2 rfl).range 0 2059 (by rw [List.drop_zero, List.take_of_length_le (Nat.le_of_eq Hlen.out)]), (hS.get 6 rfl).range 0 2059 (by rw [List.drop_zero, List.take_of_length_le (Nat.le_of_eq (Hxl.out _ _ _))]), (hS.get 2 rfl).cell 1 G1.out⟩ (fun hHeld => ?_)
        clear hK K
        simp only [Act.put, List.setIfInBounds_toArray, List.set_cons_succ, List.set_cons_zero]
        refine wpAnyH_ready (rs := [6]) (by kernel_rfl) (by simp) ?_
        refine hcons rfl rfl (fun K hK => ?_) ?_
        · clear hHeld
          refine owp_call rfl (by kernel_rfl) (args := #[.agg ks.toArray, .agg cs.toArray, .int .u32 ch]) rfl (Hw1.out _) ?_
          rintro e w8 ⟨rfl, hc⟩
          replace hS := hS.call0 hc
          try simp only [List.cons_append, List.nil_append, List.append_nil, List.set_cons_zero, List.set_cons_succ] at hS
          clear hc
          refine ⟨_, rfl, ?_⟩
          refine hK.out _ _ ⟨(hS.get 0 rfl).range 0 65 (by rw [List.drop_zero, List.take_of_length_le (Nat.le_of_eq Hkl.out)]), (hS.get 2 rfl).range 0 2059 (by rw [List.drop_zero, List.take_of_length_le (Nat.le_of_eq Hlen.out)]), (hS.get 6 rfl).range 0 2059 (by rw [List.drop_zero, List.take_of_length_le (Nat.le_of_eq (Hxl.out _ _ _))]), (hS.get 2 rfl).cell 1 G1.out⟩ (fun hHeld => ?_)
          clear hK K
          simp only [Act.put, List.setIfInBounds_toArray, List.set_cons_succ, List.set_cons_zero]
          refine htake (i := 7) (v := (.bool true)) rfl (by kernel_rfl) (by kernel_rfl) (by kernel_rfl) (fun _ _ _ h => h) (Or.inl ⟨by rfl, by (intro w hSw; (try dsimp only at hSw); (try obtain ⟨_, _, _, h4⟩ := hSw); go_simp; try with_reducible rfl)⟩) (by assumption) ?_; simp only [Act.put, List.setIfInBounds_toArray, List.set_cons_succ, List.set_cons_zero]
          refine htake (i := 8) (v := (.bool true)) rfl (by kernel_rfl) (by kernel_rfl) (by kernel_rfl) (fun _ _ _ h => h) (Or.inl ⟨by rfl, by (intro w hSw; (try dsimp only at hSw); (try obtain ⟨_, _, _, h4⟩ := hSw); go_simp; try with_reducible rfl)⟩) (by assumption) ?_; simp only [Act.put, List.setIfInBounds_toArray, List.set_cons_succ, List.set_cons_zero]
          refine htake (i := 9) (v := (.int .u32 ch)) rfl (by kernel_rfl) (by kernel_rfl) (by kernel_rfl) (fun _ _ _ h => h) (Or.inl ⟨by rfl, by (intro w hSw; (try dsimp only at hSw); (try obtain ⟨_, _, _, h4⟩ := hSw); go_simp; try with_reducible rfl)⟩) (by assumption) ?_; simp only [Act.put, List.setIfInBounds_toArray, List.set_cons_succ, List.set_cons_zero]
          refine htake (i := 10) (v := (.int .u32 ot)) rfl (by kernel_rfl) (by kernel_rfl) (by kernel_rfl) (fun _ _ _ h => h) (Or.inl ⟨by rfl, by (intro w hSw; (try dsimp only at hSw); (try obtain ⟨_, _, _, h4⟩ := hSw); go_simp; try with_reducible rfl)⟩) (by assumption) ?_; simp only [Act.put, List.setIfInBounds_toArray, List.set_cons_succ, List.set_cons_zero]
          refine htake (i := 11) (v := (.bool false)) rfl (by kernel_rfl) (by kernel_rfl) (by kernel_rfl) (fun _ _ _ h => h) (Or.inl ⟨by rfl, by (intro w hSw; (try dsimp only at hSw); (try obtain ⟨_, _, _, h4⟩ := hSw); go_simp; try with_reducible rfl)⟩) (by assumption) ?_; simp only [Act.put, List.setIfInBounds_toArray, List.set_cons_succ, List.set_cons_zero]
          refine htake (i := 12) (v := (.bool false)) rfl (by kernel_rfl) (by kernel_rfl) (by kernel_rfl) (fun _ _ _ h => h) (Or.inl ⟨by rfl, by (intro w hSw; (try dsimp only at hSw); (try obtain ⟨_, _, _, h4⟩ := hSw); go_simp; try with_reducible rfl)⟩) (by assumption) ?_; simp only [Act.put, List.setIfInBounds_toArray, List.set_cons_succ, List.set_cons_zero]
          refine htake (i := 13) (v := (.agg ks.toArray)) rfl (by kernel_rfl) (by kernel_rfl) (by kernel_rfl) (fun _ _ _ h => h) (Or.inl ⟨by rfl, yl_loadR rfl rfl Hkl.out (fun _ h => h.1)⟩) (by assumption) ?_; simp only [Act.put, List.setIfInBounds_toArray, List.set_cons_succ, List.set_cons_zero]
          refine htake (i := 15) (v := (.agg cs.toArray)) rfl (by kernel_rfl) (by kernel_rfl) (by kernel_rfl) (fun _ _ _ h => h) (Or.inl ⟨by rfl, yl_loadR rfl rfl Hlen.out (fun _ h => h.2.1)⟩) (by assumption) ?_; simp only [Act.put, List.setIfInBounds_toArray, List.set_cons_succ, List.set_cons_zero]
          refine htake (i := 16) (v := (.int .u32 ot)) rfl (by kernel_rfl) (by kernel_rfl) (by kernel_rfl) (fun _ _ _ h => h) (Or.inl ⟨by rfl, by (intro w hSw; (try dsimp only at hSw); (try obtain ⟨_, _, _, h4⟩ := hSw); go_simp; try with_reducible rfl)⟩) (by assumption) ?_; simp only [Act.put, List.setIfInBounds_toArray, List.set_cons_succ, List.set_cons_zero]
          refine wpAnyH_ready (rs := [14]) (by kernel_rfl) (by simp) ?_
          refine hcons rfl rfl (fun K hK => ?_) ?_
          · clear hHeld
            refine owp_call rfl (by kernel_rfl) (args := #[.agg ks.toArray]) rfl (Hroots.out _) ?_
            rintro e w7 ⟨rfl, hc⟩
            replace hS := hS.call0 hc
            try simp only [List.cons_append, List.nil_append, List.append_nil, List.set_cons_zero, List.set_cons_succ] at hS
            clear hc
            refine ⟨_, rfl, ?_⟩
            refine hK.out _ _ ⟨(hS.get 0 rfl).range 0 65 (by rw [List.drop_zero, List.take_of_length_le (Nat.le_of_eq Hkl.out)]), (hS.get 2 rfl).range 0 2059 (by rw [List.drop_zero, List.take_of_length_le (Nat.le_of_eq Hlen.out)]), (hS.get 6 rfl).range 0 2059 (by rw [List.drop_zero, List.take_of_length_le (Nat.le_of_eq (Hxl.out _ _ _))]), (hS.get 2 rfl).cell 1 G1.out⟩ (fun hHeld => ?_)
            clear hK K
            simp only [Act.put, List.setIfInBounds_toArray, List.set_cons_succ, List.set_cons_zero]
            refine wpAnyH_ready (rs := [17]) (by kernel_rfl) (by simp) ?_
            refine hcons rfl rfl (fun K hK => ?_) ?_
            · clear hHeld
              refine owp_call rfl (by kernel_rfl) (args := #[.agg ks.toArray, .agg cs.toArray, .int .u32 ot]) rfl (Hw2.out _) ?_
              rintro e w8 ⟨rfl, hc⟩
              replace hS := hS.call0 hc
              try simp only [List.cons_append, List.nil_append, List.append_nil, List.set_cons_zero, List.set_cons_succ] at hS
              clear hc
              refine ⟨_, rfl, ?_⟩
              refine hK.out _ _ ⟨(hS.get 0 rfl).range 0 65 (by rw [List.drop_zero, List.take_of_length_le (Nat.le_of_eq Hkl.out)]), (hS.get 2 rfl).range 0 2059 (by rw [List.drop_zero, List.take_of_length_le (Nat.le_of_eq Hlen.out)]), (hS.get 6 rfl).range 0 2059 (by rw [List.drop_zero, List.take_of_length_le (Nat.le_of_eq (Hxl.out _ _ _))]), (hS.get 2 rfl).cell 1 G1.out⟩ (fun hHeld => ?_)
              clear hK K
              simp only [Act.put, List.setIfInBounds_toArray, List.set_cons_succ, List.set_cons_zero]
              refine htake (i := 18) (v := (.bool true)) rfl (by kernel_rfl) (by kernel_rfl) (by kernel_rfl) (fun _ _ _ h => h) (Or.inl ⟨by rfl, by (intro w hSw; (try dsimp only at hSw); (try obtain ⟨_, _, _, h4⟩ := hSw); go_simp; try with_reducible rfl)⟩) (by assumption) ?_; simp only [Act.put, List.setIfInBounds_toArray, List.set_cons_succ, List.set_cons_zero]
              refine htake (i := 19) (v := (.bool true)) rfl (by kernel_rfl) (by kernel_rfl) (by kernel_rfl) (fun _ _ _ h => h) (Or.inl ⟨by rfl, by (intro w hSw; (try dsimp only at hSw); (try obtain ⟨_, _, _, h4⟩ := hSw); go_simp; try with_reducible rfl)⟩) (by assumption) ?_; simp only [Act.put, List.setIfInBounds_toArray, List.set_cons_succ, List.set_cons_zero]
              refine htake (i := 20) (v := (.bool true)) rfl (by kernel_rfl) (by kernel_rfl) (by kernel_rfl) (fun _ _ _ h => h) (Or.inl ⟨by rfl, by (intro w hSw; (try dsimp only at hSw); (try obtain ⟨_, _, _, h4⟩ := hSw); go_simp; try with_reducible rfl)⟩) (by assumption) ?_; simp only [Act.put, List.setIfInBounds_toArray, List.set_cons_succ, List.set_cons_zero]
              refine htake (i := 21) (v := (.bool true)) rfl (by kernel_rfl) (by kernel_rfl) (by kernel_rfl) (fun _ _ _ h => h) (Or.inl ⟨by rfl, by (intro w hSw; (try dsimp only at hSw); (try obtain ⟨_, _, _, h4⟩ := hSw); go_simp; try with_reducible rfl)⟩) (by assumption) ?_; simp only [Act.put, List.setIfInBounds_toArray, List.set_cons_succ, List.set_cons_zero]
              refine htake (i := 22) (v := (.int .i64 0)) rfl (by kernel_rfl) (by kernel_rfl) (by kernel_rfl) (fun _ _ _ h => h) (Or.inl ⟨by rfl, by (intro w hSw; (try dsimp only at hSw); (try obtain ⟨_, _, _, h4⟩ := hSw); go_simp; try with_reducible rfl)⟩) (by assumption) ?_; simp only [Act.put, List.setIfInBounds_toArray, List.set_cons_succ, List.set_cons_zero]
              refine htake (i := 23) (v := (.bool true)) rfl (by kernel_rfl) (by kernel_rfl) (by kernel_rfl) (fun _ _ _ h => h) (Or.inl ⟨by rfl, by (intro w hSw; (try dsimp only at hSw); (try obtain ⟨_, _, _, h4⟩ := hSw); go_simp; try with_reducible rfl)⟩) (by assumption) ?_; simp only [Act.put, List.setIfInBounds_toArray, List.set_cons_succ, List.set_cons_zero]
              refine htake (i := 24) (v := (.bool true)) rfl (by kernel_rfl) (by kernel_rfl) (by kernel_rfl) (fun _ _ _ h => h) (Or.inl ⟨by rfl, by (intro w hSw; (try dsimp only at hSw); (try obtain ⟨_, _, _, h4⟩ := hSw); go_simp; try with_reducible rfl)⟩) (by assumption) ?_; simp only [Act.put, List.setIfInBounds_toArray, List.set_cons_succ, List.set_cons_zero]
              refine htake (i := 25) (v := (.bool true)) rfl (by kernel_rfl) (by kernel_rfl) (by kernel_rfl) (fun _ _ _ h => h) (Or.inl ⟨by rfl, by (intro w hSw; (try dsimp only at hSw); (try obtain ⟨_, _, _, h4⟩ := hSw); go_simp; try with_reducible rfl)⟩) (by assumption) ?_; simp only [Act.put, List.setIfInBounds_toArray, List.set_cons_succ, List.set_cons_zero]
              refine htake (i := 26) (v := (.agg ((firstDeed ch).cells (.slice a1 0 c1) (.slice a2 0 c2) (.slice a3 0 c3)).toArray)) rfl (by kernel_rfl) (by kernel_rfl) (by kernel_rfl) (fun _ _ _ h => h) (Or.inl ⟨by rfl, yl_loadR rfl rfl (Hxl.out _ _ _) (fun _ h => h.2.2.1)⟩) (by assumption) ?_; simp only [Act.put, List.setIfInBounds_toArray, List.set_cons_succ, List.set_cons_zero]
              refine htake (i := 28) (v := (.int .u32 ch)) rfl (by kernel_rfl) (by kernel_rfl) (by kernel_rfl) (fun _ _ _ h => h) (Or.inl ⟨by rfl, by (intro w hSw; (try dsimp only at hSw); (try obtain ⟨_, _, _, h4⟩ := hSw); go_simp; try with_reducible rfl)⟩) (by assumption) ?_; simp only [Act.put, List.setIfInBounds_toArray, List.set_cons_succ, List.set_cons_zero]
              refine htake (i := 29) (v := (.agg ((noState ch).cells (.slice none 0 0)).toArray)) rfl (by kernel_rfl) (by kernel_rfl) (by kernel_rfl) (fun _ _ _ h => h) (Or.inl ⟨by rfl, yl_build rfl [(0, .int .u32 ch)] rfl (build_stateCR ch)⟩) (by assumption) ?_; simp only [Act.put, List.setIfInBounds_toArray, List.set_cons_succ, List.set_cons_zero]
              refine htake (i := 30) (v := (.agg cs.toArray)) rfl (by kernel_rfl) (by kernel_rfl) (by kernel_rfl) (fun _ _ _ h => h) (Or.inl ⟨by rfl, yl_build rfl [(0, .agg ((noState ch).cells (.slice none 0 0)).toArray)] rfl Hbd.out⟩) (by assumption) ?_; simp only [Act.put, List.setIfInBounds_toArray, List.set_cons_succ, List.set_cons_zero]
              refine wpAnyH_ready (rs := [27]) (by kernel_rfl) (by simp) ?_
              refine hcons rfl rfl (fun K hK => ?_) ?_
              · clear hHeld
                have hcall := deedFrom_ok (firstDeed ch) (firstDeed_small ch) (.slice a1 0 c1) (.slice a2 0 c2) (.slice a3 0 c3) _ (Hrx.out.read (hS.get 3 rfl)) (Hry.out.read (hS.get 4 rfl)) (Hrz.out.read (hS.get 5 rfl))
                refine owp_call rfl (by kernel_rfl) (args := #[.agg ((firstDeed ch).cells (.slice a1 0 c1) (.slice a2 0 c2) (.slice a3 0 c3)).toArray]) rfl hcall ?_
                clear hcall
                rintro e w9 ⟨cv4, av4, bv4, x4, y4, z4, rfl, hc, hx4, hy4, hz4⟩
                replace hS := hS.call0 hc
                try simp only [List.cons_append, List.nil_append, List.append_nil, List.set_cons_zero, List.set_cons_succ] at hS
                clear hc
                refine ⟨_, rfl, ?_⟩
                refine hK.out _ _ ⟨(hS.get 0 rfl).range 0 65 (by rw [List.drop_zero, List.take_of_length_le (Nat.le_of_eq Hkl.out)]), (hS.get 2 rfl).range 0 2059 (by rw [List.drop_zero, List.take_of_length_le (Nat.le_of_eq Hlen.out)]), (hS.get 6 rfl).range 0 2059 (by rw [List.drop_zero, List.take_of_length_le (Nat.le_of_eq (Hxl.out _ _ _))]), (hS.get 2 rfl).cell 1 G1.out⟩ (fun hHeld => ?_)
                clear hK K
                simp only [Act.put, List.setIfInBounds_toArray, List.set_cons_succ, List.set_cons_zero]
                refine wpAnyH_ready (rs := [31]) (by kernel_rfl) (by simp) ?_
                refine hcons rfl rfl (fun K hK => ?_) ?_
                · clear hHeld
                  have hcall := deedSame_ok (firstDeed ch) (firstDeed_small ch) cv4 av4 bv4 (.slice none 0 0) (.slice none 0 0) (.slice none 0 0) _ (hx4.read (hS.get 7 rfl)) (hy4.read (hS.get 8 rfl)) (hz4.read (hS.get 9 rfl)) noRow noRow noRow
                  rw [Hno.out] at hcall
                  refine owp_call rfl (by kernel_rfl) (args := #[.agg ((firstDeed ch).cells cv4 av4 bv4).toArray, .agg cs.toArray]) rfl hcall ?_
                  clear hcall
                  rintro e w10 ⟨rfl, hc⟩
                  replace hS := hS.call0 hc
                  try simp only [List.cons_append, List.nil_append, List.append_nil, List.set_cons_zero, List.set_cons_succ] at hS
                  clear hc hx4 hy4 hz4
                  refine ⟨_, rfl, ?_⟩
                  refine hK.out _ _ ⟨(hS.get 0 rfl).range 0 65 (by rw [List.drop_zero, List.take_of_length_le (Nat.le_of_eq Hkl.out)]), (hS.get 2 rfl).range 0 2059 (by rw [List.drop_zero, List.take_of_length_le (Nat.le_of_eq Hlen.out)]), (hS.get 6 rfl).range 0 2059 (by rw [List.drop_zero, List.take_of_length_le (Nat.le_of_eq (Hxl.out _ _ _))]), (hS.get 2 rfl).cell 1 G1.out⟩ (fun hHeld => ?_)
                  clear hK K
                  simp only [Act.put, List.setIfInBounds_toArray, List.set_cons_succ, List.set_cons_zero]
                  refine htake (i := 32) (v := (.bool true)) rfl (by kernel_rfl) (by kernel_rfl) (by kernel_rfl) (fun _ _ _ h => h) (Or.inl ⟨by rfl, by (intro w hSw; (try dsimp only at hSw); (try obtain ⟨_, _, _, h4⟩ := hSw); go_simp; try with_reducible rfl)⟩) (by assumption) ?_; simp only [Act.put, List.setIfInBounds_toArray, List.set_cons_succ, List.set_cons_zero]
                  refine htake (i := 33) (v := (.bool true)) rfl (by kernel_rfl) (by kernel_rfl) (by kernel_rfl) (fun _ _ _ h => h) (Or.inl ⟨by rfl, by (intro w hSw; (try dsimp only at hSw); (try obtain ⟨_, _, _, h4⟩ := hSw); go_simp; try with_reducible rfl)⟩) (by assumption) ?_; simp only [Act.put, List.setIfInBounds_toArray, List.set_cons_succ, List.set_cons_zero]
                  refine htake (i := 34) (v := (.pointer (some ⟨gd, 0, none⟩))) rfl (by kernel_rfl) (by kernel_rfl) (by kernel_rfl) (fun _ _ _ h => h) (Or.inl ⟨by rfl, by (intro w hSw; (try dsimp only at hSw); (try obtain ⟨_, _, _, h4⟩ := hSw); go_simp; try with_reducible rfl)⟩) (by assumption) ?_; simp only [Act.put, List.setIfInBounds_toArray, List.set_cons_succ, List.set_cons_zero]
                  refine htake (i := 35) (v := (.pointer (some ⟨gd, 1, none⟩))) rfl (by kernel_rfl) (by kernel_rfl) (by kernel_rfl) (fun _ _ _ h => h) (Or.inl ⟨by rfl, by (intro w hSw; (try dsimp only at hSw); (try obtain ⟨_, _, _, h4⟩ := hSw); go_simp; try with_reducible rfl)⟩) (by assumption) ?_; simp only [Act.put, List.setIfInBounds_toArray, List.set_cons_succ, List.set_cons_zero]
                  refine htake (i := 36) (v := (.int .u64 0)) rfl (by kernel_rfl) (by kernel_rfl) (by kernel_rfl) (fun _ _ _ h => h) (Or.inl ⟨by rfl, by (intro w hSw; (try dsimp only at hSw); (try obtain ⟨_, _, _, h4⟩ := hSw); go_simp; try with_reducible rfl)⟩) (by assumption) ?_; simp only [Act.put, List.setIfInBounds_toArray, List.set_cons_succ, List.set_cons_zero]
                  refine htake (i := 37) (v := (.bool true)) rfl (by kernel_rfl) (by kernel_rfl) (by kernel_rfl) (fun _ _ _ h => h) (Or.inl ⟨by rfl, by (intro w hSw; (try dsimp only at hSw); (try obtain ⟨_, _, _, h4⟩ := hSw); go_simp; try with_reducible rfl)⟩) (by assumption) ?_; simp only [Act.put, List.setIfInBounds_toArray, List.set_cons_succ, List.set_cons_zero]
                  refine htake (i := 38) (v := (.bool true)) rfl (by kernel_rfl) (by kernel_rfl) (by kernel_rfl) (fun _ _ _ h => h) (Or.inl ⟨by rfl, by (intro w hSw; (try dsimp only at hSw); (try obtain ⟨_, _, _, h4⟩ := hSw); go_simp; try with_reducible rfl)⟩) (by assumption) ?_; simp only [Act.put, List.setIfInBounds_toArray, List.set_cons_succ, List.set_cons_zero]
                  refine htake (i := 39) (v := (.bool true)) rfl (by kernel_rfl) (by kernel_rfl) (by kernel_rfl) (fun _ _ _ h => h) (Or.inl ⟨by rfl, by (intro w hSw; (try dsimp only at hSw); (try obtain ⟨_, _, _, h4⟩ := hSw); go_simp; try with_reducible rfl)⟩) (by assumption) ?_; simp only [Act.put, List.setIfInBounds_toArray, List.set_cons_succ, List.set_cons_zero]
                  refine wpAnyH_done (by kernel_rfl) ?_ _
                  clear hHeld
                  go_wp2_with fail
                  go_ret
                  exact ⟨rfl, hS.pick [] rfl (by decide)⟩
                exact AllReadyH.nil
              exact AllReadyH.nil
            exact AllReadyH.nil
          exact AllReadyH.nil
        exact AllReadyH.nil
      exact AllReadyH.nil
    exact AllReadyH.nil

end Go.Proofs.Ytldmkafobbemjaa
