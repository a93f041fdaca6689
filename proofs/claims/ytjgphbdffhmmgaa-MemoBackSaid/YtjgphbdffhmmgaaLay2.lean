/-
  A ring's signature laid to bytes by the program.
-/
import Derived.Test.YtjgphbdffhmmgaaLay1
import Derived.Test.YtjgphbdffhmmgaaLaw6
namespace Go.Proofs.Ytjgphbdffhmmgaa
set_option linter.unusedSimpArgs false
set_option linter.unusedVariables false
open Go Go.RowKit
set_option maxRecDepth 100000
set_option maxHeartbeats 2000000

def laySig (s : Sig) : List UInt8 := ((enc 4 s.key ++ [UInt8.ofNat s.way.length]) ++ layLamp s.l) ++ s.way.flatten
theorem layLamp_length (s : LSig) (h1 : s.shown.length = 512) (h2 : s.other.length = 512) : (layLamp s).length = 1024 := lampTo_length s h1 h2 32 (by omega)

theorem laySig_ok (s : Sig) (hf : s.Fit) (wv : Value) (x : Ent) (v : Value) (l : List UInt8) (w : World) (hb : Holds w x) (hv : RowV 5 1 v l.length (bs l) x)
    (hw : RowR w 32 wv s.way.length (wayCells s.way)) (hd : Far w (keys [x]) wv) (hk : s.key < 2 ^ 32) (hw8 : s.way.length ≤ 255) (hl : l.length ≤ 50000000) :
    Calls Try.prog 43 #[.agg (s.cells wv).toArray, v] w (OPost w x (l ++ laySig s)) := by
  have hS := St.start w [x] (fun y hy => by simp at hy; subst hy; exact hb) (by cases x <;> simp [keys])
  obtain ⟨a0, c0, rfl⟩ := hv.isSl
  obtain ⟨a1, c1, rfl⟩ := hw.isSl
  have Hll := Lib.hid (LSig.len s.l hf.shown hf.other)
  have Hway := Lib.hid hf.way
  have Hw := Lib.hid hw
  have Hv := Lib.hid hv
  have Hp := Lib.hid (Sig.parts s Hll.out (.slice a1 s.way.length c1))
  have Hlamp := Lib.hid (layLamp_ok s.l hf.shown hf.other)
  have Hlaml := Lib.hid (layLamp_length s.l hf.shown hf.other)
  have H4 := Lib.hid (show ∀ n, n ∈ [s.key] → n < 2 ^ 32 by intro n hn; simp only [List.mem_singleton] at hn; subst hn; exact hk)
  have Hb := Lib.hid (B_small s.way.length (by omega))
  have hwi : IntKind.u8.wrap (s.way.length : Int) = s.way.length := by rw [IntKind.wrap_u8]; omega
  have hwm : (s.way.length : Int) % 256 = s.way.length := by omega
  have Hl1 := Lib.hid (show (l ++ enc 4 s.key).length = l.length + 4 by rw [List.length_append, enc_length])
  have Hl2 := Lib.hid (show (l ++ enc 4 s.key ++ [UInt8.ofNat s.way.length]).length = l.length + 5 by rw [List.length_append, List.length_append, enc_length]; rfl)
  have Hl3 := Lib.hid (show (l ++ enc 4 s.key ++ [UInt8.ofNat s.way.length] ++ layLamp s.l).length = l.length + 1029 by rw [List.length_append, Hl2.out, Hlaml.out])
  have Hfin := Lib.hid (show l ++ laySig s = l ++ enc 4 s.key ++ [UInt8.ofNat s.way.length] ++ layLamp s.l ++ s.way.flatten by simp [laySig, List.append_assoc])
  clear hf hw hv
  generalize s.cells (.slice a1 s.way.length c1) = cs at *
  go_enter Try.func43, Try.ntmps43
  go_upto_region 1 with (first
    | ((with_reducible show wpList _ _ _ (Oper.mk _ (Op.box _ _) _ _ _ _ :: _) _ _); refine wpl rfl ?_; refine owp_box hS rfl (vs := cs) rfl ?_; clear hS; intro gs _ hS; try simp only [List.cons_append, List.nil_append, List.append_nil, List.set_cons_zero, List.set_cons_succ] at hS))
  try simp only [Act.put, List.setIfInBounds_toArray, List.set_cons_succ, List.set_cons_zero]
  replace hS := hS.drew
  refine wp_region_held_drew (S := (fun w' => (w'.cell? ⟨gs, 1024, none⟩ = some (.int .u32 s.key) ∧ w'.cell? ⟨gs, 1025, none⟩ = some (.slice a1 s.way.length c1)) ∧ CellsAt w' ⟨gs, 0, none⟩ s.l.cells)) (by kernel_rfl) ⟨⟨(hS.get 1 rfl).cell 1024 Hp.out.2.1, (hS.get 1 rfl).cell 1025 Hp.out.2.2⟩, (hS.get 1 rfl).range 0 1024 Hp.out.1⟩ (fun hHeld => ?_)
  refine htake (i := 0) (v := (.pointer (some ⟨gs, 0, none⟩))) rfl (by kernel_rfl) (by kernel_rfl) (by kernel_rfl) (fun _ _ _ h => h) (Or.inl ⟨by rfl, by (intro w hSw; (try dsimp only at hSw); (try obtain ⟨⟨h1, h2⟩, _⟩ := hSw); go_simp; try with_reducible rfl)⟩) (by assumption) ?_; simp only [Act.put, List.setIfInBounds_toArray, List.set_cons_succ, List.set_cons_zero]
  refine htake (i := 1) (v := (.agg s.l.cells.toArray)) rfl (by kernel_rfl) (by kernel_rfl) (by kernel_rfl) (fun _ _ _ h => h) (Or.inl ⟨by rfl, yl_loadR rfl rfl Hll.out (fun _ h => h.2)⟩) (by assumption) ?_; simp only [Act.put, List.setIfInBounds_toArray, List.set_cons_succ, List.set_cons_zero]
  refine htake (i := 2) (v := (.slice a0 l.length c0)) rfl (by kernel_rfl) (by kernel_rfl) (by kernel_rfl) (fun _ _ _ h => h) (Or.inl ⟨by rfl, by (intro w hSw; (try dsimp only at hSw); (try obtain ⟨⟨h1, h2⟩, _⟩ := hSw); go_simp; try with_reducible rfl)⟩) (by assumption) ?_; simp only [Act.put, List.setIfInBounds_toArray, List.set_cons_succ, List.set_cons_zero]
  refine htake (i := 3) (v := (.pointer (some ⟨gs, 1024, none⟩))) rfl (by kernel_rfl) (by kernel_rfl) (by kernel_rfl) (fun _ _ _ h => h) (Or.inl ⟨by rfl, by (intro w hSw; (try dsimp only at hSw); (try obtain ⟨⟨h1, h2⟩, _⟩ := hSw); go_simp; try with_reducible rfl)⟩) (by assumption) ?_; simp only [Act.put, List.setIfInBounds_toArray, List.set_cons_succ, List.set_cons_zero]
  refine htake (i := 4) (v := (.int .u32 s.key)) rfl (by kernel_rfl) (by kernel_rfl) (by kernel_rfl) (fun _ _ _ h => h) (Or.inl ⟨by rfl, by (intro w hSw; (try dsimp only at hSw); (try obtain ⟨⟨h1, h2⟩, _⟩ := hSw); go_simp; try with_reducible rfl)⟩) (by assumption) ?_; simp only [Act.put, List.setIfInBounds_toArray, List.set_cons_succ, List.set_cons_zero]
  refine htake (i := 7) (v := (.pointer (some ⟨gs, 1025, none⟩))) rfl (by kernel_rfl) (by kernel_rfl) (by kernel_rfl) (fun _ _ _ h => h) (Or.inl ⟨by rfl, by (intro w hSw; (try dsimp only at hSw); (try obtain ⟨⟨h1, h2⟩, _⟩ := hSw); go_simp; try with_reducible rfl)⟩) (by assumption) ?_; simp only [Act.put, List.setIfInBounds_toArray, List.set_cons_succ, List.set_cons_zero]
  refine htake (i := 8) (v := (.slice a1 s.way.length c1)) rfl (by kernel_rfl) (by kernel_rfl) (by kernel_rfl) (fun _ _ _ h => h) (Or.inl ⟨by rfl, by (intro w hSw; (try dsimp only at hSw); (try obtain ⟨⟨h1, h2⟩, _⟩ := hSw); go_simp; try with_reducible rfl)⟩) (by assumption) ?_; simp only [Act.put, List.setIfInBounds_toArray, List.set_cons_succ, List.set_cons_zero]
  refine htake (i := 9) (v := (.int .i64 s.way.length)) rfl (by kernel_rfl) (by kernel_rfl) (by kernel_rfl) (fun _ _ _ h => h) (Or.inl ⟨by rfl, by (intro w hSw; (try dsimp only at hSw); (try obtain ⟨⟨h1, h2⟩, _⟩ := hSw); go_simp; try with_reducible rfl)⟩) (by assumption) ?_; simp only [Act.put, List.setIfInBounds_toArray, List.set_cons_succ, List.set_cons_zero]
  refine htake (i := 10) (v := (.int .u8 s.way.length)) rfl (by kernel_rfl) (by kernel_rfl) (by kernel_rfl) (fun _ _ _ h => h) (Or.inl ⟨by rfl, by (intro w hSw; (try dsimp only at hSw); (try obtain ⟨⟨h1, h2⟩, _⟩ := hSw); go_simp; try with_reducible rfl)⟩) (by assumption) ?_; simp only [Act.put, List.setIfInBounds_toArray, List.set_cons_succ, List.set_cons_zero]
  refine htake (i := 14) (v := (.pointer (some ⟨gs, 1025, none⟩))) rfl (by kernel_rfl) (by kernel_rfl) (by kernel_rfl) (fun _ _ _ h => h) (Or.inl ⟨by rfl, by (intro w hSw; (try dsimp only at hSw); (try obtain ⟨⟨h1, h2⟩, _⟩ := hSw); go_simp; try with_reducible rfl)⟩) (by assumption) ?_; simp only [Act.put, List.setIfInBounds_toArray, List.set_cons_succ, List.set_cons_zero]
  refine htake (i := 15) (v := (.slice a1 s.way.length c1)) rfl (by kernel_rfl) (by kernel_rfl) (by kernel_rfl) (fun _ _ _ h => h) (Or.inl ⟨by rfl, by (intro w hSw; (try dsimp only at hSw); (try obtain ⟨⟨h1, h2⟩, _⟩ := hSw); go_simp; try with_reducible rfl)⟩) (by assumption) ?_; simp only [Act.put, List.setIfInBounds_toArray, List.set_cons_succ, List.set_cons_zero]
  refine wpAnyH_ready (rs := [5, 11]) (by kernel_rfl) (by simp) ?_
  refine hcons rfl rfl (fun K hK => ?_) ?_
  · clear hHeld
    refine owp_bslice1 (vs := [.int .u32 _]) hS rfl rfl (by rfl) (by decide) ?_
    clear hS; intro gk _ hS; try simp only [List.cons_append, List.nil_append, List.append_nil, List.set_cons_zero, List.set_cons_succ] at hS
    refine hK.out _ _ ⟨⟨(hS.get 1 rfl).cell 1024 Hp.out.2.1, (hS.get 1 rfl).cell 1025 Hp.out.2.2⟩, (hS.get 1 rfl).range 0 1024 Hp.out.1⟩ (fun hHeld => ?_)
    clear hK K
    simp only [Act.put, List.setIfInBounds_toArray, List.set_cons_succ, List.set_cons_zero]
    refine wpAnyH_ready (rs := [6, 11]) (by kernel_rfl) (by simp) ?_
    refine hcons rfl rfl (fun K hK => ?_) ?_
    · clear hHeld
      have hcall := ofour_ok x (.slice a0 l.length c0) l (.slice (some ⟨gk, 0, none⟩) 1 1) [s.key] _ (hS.get 0 rfl) Hv.out ((RowV.lit 24 1 gk 1 [.int .u32 s.key] rfl (by decide)).read (hS.get 2 rfl)) (hS.apart 0 2 rfl rfl (by decide)) H4.out (by omega) (by simp)
      refine owp_call rfl (by kernel_rfl) (args := #[.slice a0 l.length c0, .slice (some ⟨gk, 0, none⟩) 1 1]) rfl hcall ?_
      clear hcall
      rintro e w5 ⟨v5, x5, rfl, hrow5, hc⟩
      rw [fours_one, Hl1.out] at hrow5
      replace hS := hS.call1 (N := []) 0 rfl hc
      try simp only [List.cons_append, List.nil_append, List.append_nil, List.set_cons_zero, List.set_cons_succ] at hS
      clear hc
      obtain ⟨a5, c5, rfl⟩ := hrow5.isSl
      refine ⟨_, rfl, ?_⟩
      refine hK.out _ _ ⟨⟨(hS.get 1 rfl).cell 1024 Hp.out.2.1, (hS.get 1 rfl).cell 1025 Hp.out.2.2⟩, (hS.get 1 rfl).range 0 1024 Hp.out.1⟩ (fun hHeld => ?_)
      clear hK K
      simp only [Act.put, List.setIfInBounds_toArray, List.set_cons_succ, List.set_cons_zero]
      refine wpAnyH_ready (rs := [11]) (by kernel_rfl) (by simp) ?_
      refine hcons rfl rfl (fun K hK => ?_) ?_
      · clear hHeld
        refine owp_bslice1 (vs := [.int .u8 _]) hS rfl rfl (by rfl) (by decide) ?_
        clear hS; intro gn _ hS; try simp only [List.cons_append, List.nil_append, List.append_nil, List.set_cons_zero, List.set_cons_succ] at hS
        refine hK.out _ _ ⟨⟨(hS.get 1 rfl).cell 1024 Hp.out.2.1, (hS.get 1 rfl).cell 1025 Hp.out.2.2⟩, (hS.get 1 rfl).range 0 1024 Hp.out.1⟩ (fun hHeld => ?_)
        clear hK K
        simp only [Act.put, List.setIfInBounds_toArray, List.set_cons_succ, List.set_cons_zero]
        refine wpAnyH_ready (rs := [12]) (by kernel_rfl) (by simp) ?_
        refine hcons rfl rfl (fun K hK => ?_) ?_
        · clear hHeld
          rw [← Hb.out] at hS
          have hcall := oone_ok x5 (.slice a5 (l.length + 4) c5) (l ++ enc 4 s.key) (.slice (some ⟨gn, 0, none⟩) 1 1) [UInt8.ofNat s.way.length] _ (hS.get 0 rfl) (by rw [Hl1.out]; exact hrow5) ((RowV.lit 5 1 gn 1 _ rfl (by decide)).read (hS.get 3 rfl)) (by rw [Hl1.out]; simp; omega)
          refine owp_call rfl (by kernel_rfl) (args := #[.slice a5 (l.length + 4) c5, .slice (some ⟨gn, 0, none⟩) 1 1]) rfl hcall ?_
          clear hcall
          rintro e w6 ⟨v6, x6, rfl, hrow6, hc⟩
          rw [Hl2.out] at hrow6
          replace hS := hS.call1 (N := []) 0 rfl hc
          try simp only [List.cons_append, List.nil_append, List.append_nil, List.set_cons_zero, List.set_cons_succ] at hS
          clear hc
          obtain ⟨a6, c6, rfl⟩ := hrow6.isSl
          refine ⟨_, rfl, ?_⟩
          refine hK.out _ _ ⟨⟨(hS.get 1 rfl).cell 1024 Hp.out.2.1, (hS.get 1 rfl).cell 1025 Hp.out.2.2⟩, (hS.get 1 rfl).range 0 1024 Hp.out.1⟩ (fun hHeld => ?_)
          clear hK K
          simp only [Act.put, List.setIfInBounds_toArray, List.set_cons_succ, List.set_cons_zero]
          refine wpAnyH_ready (rs := [13]) (by kernel_rfl) (by simp) ?_
          refine hcons rfl rfl (fun K hK => ?_) ?_
          · clear hHeld
            have hcall := Hlamp.out x6 (.slice a6 (l.length + 5) c6) (l ++ enc 4 s.key ++ [UInt8.ofNat s.way.length]) _ (hS.get 0 rfl) (by rw [Hl2.out]; exact hrow6) (by rw [Hl2.out]; omega)
            refine owp_call rfl (by kernel_rfl) (args := #[.agg s.l.cells.toArray, .slice a6 (l.length + 5) c6]) rfl hcall ?_
            clear hcall
            rintro e w7 ⟨v7, x7, rfl, hrow7, hc⟩
            rw [Hl3.out] at hrow7
            replace hS := hS.call1 (N := []) 0 rfl hc
            try simp only [List.cons_append, List.nil_append, List.append_nil, List.set_cons_zero, List.set_cons_succ] at hS
            clear hc
            obtain ⟨a7, c7, rfl⟩ := hrow7.isSl
            refine ⟨_, rfl, ?_⟩
            refine hK.out _ _ ⟨⟨(hS.get 1 rfl).cell 1024 Hp.out.2.1, (hS.get 1 rfl).cell 1025 Hp.out.2.2⟩, (hS.get 1 rfl).range 0 1024 Hp.out.1⟩ (fun hHeld => ?_)
            clear hK K
            simp only [Act.put, List.setIfInBounds_toArray, List.set_cons_succ, List.set_cons_zero]
            refine wpAnyH_ready (rs := [16]) (by kernel_rfl) (by simp) ?_
            refine hcons rfl rfl (fun K hK => ?_) ?_
            · clear hHeld
              have hcall := osum_ok x7 (.slice a7 (l.length + 1029) c7) (l ++ enc 4 s.key ++ [UInt8.ofNat s.way.length] ++ layLamp s.l) (.slice a1 s.way.length c1) s.way _ (hS.get 0 rfl) (by rw [Hl3.out]; exact hrow7) (Hw.out.st hS hd.not) (hd.st hS 0 rfl).not Hway.out (by rw [Hl3.out]; omega) (by omega)
              refine owp_call rfl (by kernel_rfl) (args := #[.slice a7 (l.length + 1029) c7, .slice a1 s.way.length c1]) rfl hcall ?_
              clear hcall
              rintro e w8 ⟨v8, x8, rfl, hrow8, hc⟩
              rw [← Hfin.out] at hrow8
              replace hS := hS.call1 (N := []) 0 rfl hc
              try simp only [List.cons_append, List.nil_append, List.append_nil, List.set_cons_zero, List.set_cons_succ] at hS
              clear hc
              obtain ⟨a8, c8, rfl⟩ := hrow8.isSl
              refine ⟨_, rfl, ?_⟩
              refine hK.out _ _ ⟨⟨(hS.get 1 rfl).cell 1024 Hp.out.2.1, (hS.get 1 rfl).cell 1025 Hp.out.2.2⟩, (hS.get 1 rfl).range 0 1024 Hp.out.1⟩ (fun hHeld => ?_)
              clear hK K
              simp only [Act.put, List.setIfInBounds_toArray, List.set_cons_succ, List.set_cons_zero]
              refine htake (i := 17) (v := (.slice a8 (l ++ laySig s).length c8)) rfl (by kernel_rfl) (by kernel_rfl) (by kernel_rfl) (fun _ _ _ h => h) (Or.inl ⟨by rfl, by (intro w hSw; (try dsimp only at hSw); (try obtain ⟨⟨h1, h2⟩, _⟩ := hSw); go_simp; try with_reducible rfl)⟩) (by assumption) ?_; simp only [Act.put, List.setIfInBounds_toArray, List.set_cons_succ, List.set_cons_zero]
              refine wpAnyH_done (by kernel_rfl) ?_ _
              clear hHeld
              go_wp2_with fail
              go_ret
              exact ⟨_, x8, rfl, hrow8, hS.pick [0] rfl (by decide)⟩
            exact AllReadyH.nil
          exact AllReadyH.nil
        exact AllReadyH.nil
      exact AllReadyH.nil
    refine hcons rfl rfl (fun K hK => ?_) ?_
    · clear hHeld
      refine owp_bslice1 (vs := [.int .u8 _]) hS rfl rfl (by rfl) (by decide) ?_
      clear hS; intro gn _ hS; try simp only [List.cons_append, List.nil_append, List.append_nil, List.set_cons_zero, List.set_cons_succ] at hS
      refine hK.out _ _ ⟨⟨(hS.get 1 rfl).cell 1024 Hp.out.2.1, (hS.get 1 rfl).cell 1025 Hp.out.2.2⟩, (hS.get 1 rfl).range 0 1024 Hp.out.1⟩ (fun hHeld => ?_)
      clear hK K
      simp only [Act.put, List.setIfInBounds_toArray, List.set_cons_succ, List.set_cons_zero]
      refine wpAnyH_ready (rs := [6]) (by kernel_rfl) (by simp) ?_
      refine hcons rfl rfl (fun K hK => ?_) ?_
      · clear hHeld
        have hcall := ofour_ok x (.slice a0 l.length c0) l (.slice (some ⟨gk, 0, none⟩) 1 1) [s.key] _ (hS.get 0 rfl) Hv.out ((RowV.lit 24 1 gk 1 [.int .u32 s.key] rfl (by decide)).read (hS.get 2 rfl)) (hS.apart 0 2 rfl rfl (by decide)) H4.out (by omega) (by simp)
        refine owp_call rfl (by kernel_rfl) (args := #[.slice a0 l.length c0, .slice (some ⟨gk, 0, none⟩) 1 1]) rfl hcall ?_
        clear hcall
        rintro e w5 ⟨v5, x5, rfl, hrow5, hc⟩
        rw [fours_one, Hl1.out] at hrow5
        replace hS := hS.call1 (N := []) 0 rfl hc
        try simp only [List.cons_append, List.nil_append, List.append_nil, List.set_cons_zero, List.set_cons_succ] at hS
        clear hc
        obtain ⟨a5, c5, rfl⟩ := hrow5.isSl
        refine ⟨_, rfl, ?_⟩
        refine hK.out _ _ ⟨⟨(hS.get 1 rfl).cell 1024 Hp.out.2.1, (hS.get 1 rfl).cell 1025 Hp.out.2.2⟩, (hS.get 1 rfl).range 0 1024 Hp.out.1⟩ (fun hHeld => ?_)
        clear hK K
        simp only [Act.put, List.setIfInBounds_toArray, List.set_cons_succ, List.set_cons_zero]
        refine wpAnyH_ready (rs := [12]) (by kernel_rfl) (by simp) ?_
        refine hcons rfl rfl (fun K hK => ?_) ?_
        · clear hHeld
          rw [← Hb.out] at hS
          have hcall := oone_ok x5 (.slice a5 (l.length + 4) c5) (l ++ enc 4 s.key) (.slice (some ⟨gn, 0, none⟩) 1 1) [UInt8.ofNat s.way.length] _ (hS.get 0 rfl) (by rw [Hl1.out]; exact hrow5) ((RowV.lit 5 1 gn 1 _ rfl (by decide)).read (hS.get 3 rfl)) (by rw [Hl1.out]; simp; omega)
          refine owp_call rfl (by kernel_rfl) (args := #[.slice a5 (l.length + 4) c5, .slice (some ⟨gn, 0, none⟩) 1 1]) rfl hcall ?_
          clear hcall
          rintro e w6 ⟨v6, x6, rfl, hrow6, hc⟩
          rw [Hl2.out] at hrow6
          replace hS := hS.call1 (N := []) 0 rfl hc
          try simp only [List.cons_append, List.nil_append, List.append_nil, List.set_cons_zero, List.set_cons_succ] at hS
          clear hc
          obtain ⟨a6, c6, rfl⟩ := hrow6.isSl
          refine ⟨_, rfl, ?_⟩
          refine hK.out _ _ ⟨⟨(hS.get 1 rfl).cell 1024 Hp.out.2.1, (hS.get 1 rfl).cell 1025 Hp.out.2.2⟩, (hS.get 1 rfl).range 0 1024 Hp.out.1⟩ (fun hHeld => ?_)
          clear hK K
          simp only [Act.put, List.setIfInBounds_toArray, List.set_cons_succ, List.set_cons_zero]
          refine wpAnyH_ready (rs := [13]) (by kernel_rfl) (by simp) ?_
          refine hcons rfl rfl (fun K hK => ?_) ?_
          · clear hHeld
            have hcall := Hlamp.out x6 (.slice a6 (l.length + 5) c6) (l ++ enc 4 s.key ++ [UInt8.ofNat s.way.length]) _ (hS.get 0 rfl) (by rw [Hl2.out]; exact hrow6) (by rw [Hl2.out]; omega)
            refine owp_call rfl (by kernel_rfl) (args := #[.agg s.l.cells.toArray, .slice a6 (l.length + 5) c6]) rfl hcall ?_
            clear hcall
            rintro e w7 ⟨v7, x7, rfl, hrow7, hc⟩
            rw [Hl3.out] at hrow7
            replace hS := hS.call1 (N := []) 0 rfl hc
            try simp only [List.cons_append, List.nil_append, List.append_nil, List.set_cons_zero, List.set_cons_succ] at hS
            clear hc
            obtain ⟨a7, c7, rfl⟩ := hrow7.isSl
            refine ⟨_, rfl, ?_⟩
            refine hK.out _ _ ⟨⟨(hS.get 1 rfl).cell 1024 Hp.out.2.1, (hS.get 1 rfl).cell 1025 Hp.out.2.2⟩, (hS.get 1 rfl).range 0 1024 Hp.out.1⟩ (fun hHeld => ?_)
            clear hK K
            simp only [Act.put, List.setIfInBounds_toArray, List.set_cons_succ, List.set_cons_zero]
            refine wpAnyH_ready (rs := [16]) (by kernel_rfl) (by simp) ?_
            refine hcons rfl rfl (fun K hK => ?_) ?_
            · clear hHeld
              have hcall := osum_ok x7 (.slice a7 (l.length + 1029) c7) (l ++ enc 4 s.key ++ [UInt8.ofNat s.way.length] ++ layLamp s.l) (.slice a1 s.way.length c1) s.way _ (hS.get 0 rfl) (by rw [Hl3.out]; exact hrow7) (Hw.out.st hS hd.not) (hd.st hS 0 rfl).not Hway.out (by rw [Hl3.out]; omega) (by omega)
              refine owp_call rfl (by kernel_rfl) (args := #[.slice a7 (l.length + 1029) c7, .slice a1 s.way.length c1]) rfl hcall ?_
              clear hcall
              rintro e w8 ⟨v8, x8, rfl, hrow8, hc⟩
              rw [← Hfin.out] at hrow8
              replace hS := hS.call1 (N := []) 0 rfl hc
              try simp only [List.cons_append, List.nil_append, List.append_nil, List.set_cons_zero, List.set_cons_succ] at hS
              clear hc
              obtain ⟨a8, c8, rfl⟩ := hrow8.isSl
              refine ⟨_, rfl, ?_⟩
              refine hK.out _ _ ⟨⟨(hS.get 1 rfl).cell 1024 Hp.out.2.1, (hS.get 1 rfl).cell 1025 Hp.out.2.2⟩, (hS.get 1 rfl).range 0 1024 Hp.out.1⟩ (fun hHeld => ?_)
              clear hK K
              simp only [Act.put, List.setIfInBounds_toArray, List.set_cons_succ, List.set_cons_zero]
              refine htake (i := 17) (v := (.slice a8 (l ++ laySig s).length c8)) rfl (by kernel_rfl) (by kernel_rfl) (by kernel_rfl) (fun _ _ _ h => h) (Or.inl ⟨by rfl, by (intro w hSw; (try dsimp only at hSw); (try obtain ⟨⟨h1, h2⟩, _⟩ := hSw); go_simp; try with_reducible rfl)⟩) (by assumption) ?_; simp only [Act.put, List.setIfInBounds_toArray, List.set_cons_succ, List.set_cons_zero]
              refine wpAnyH_done (by kernel_rfl) ?_ _
              clear hHeld
              go_wp2_with fail
              go_ret
              exact ⟨_, x8, rfl, hrow8, hS.pick [0] rfl (by decide)⟩
            exact AllReadyH.nil
          exact AllReadyH.nil
        exact AllReadyH.nil
      exact AllReadyH.nil
    exact AllReadyH.nil
  refine hcons rfl rfl (fun K hK => ?_) ?_
  · clear hHeld
    refine owp_bslice1 (vs := [.int .u8 _]) hS rfl rfl (by rfl) (by decide) ?_
    clear hS; intro gn _ hS; try simp only [List.cons_append, List.nil_append, List.append_nil, List.set_cons_zero, List.set_cons_succ] at hS
    refine hK.out _ _ ⟨⟨(hS.get 1 rfl).cell 1024 Hp.out.2.1, (hS.get 1 rfl).cell 1025 Hp.out.2.2⟩, (hS.get 1 rfl).range 0 1024 Hp.out.1⟩ (fun hHeld => ?_)
    clear hK K
    simp only [Act.put, List.setIfInBounds_toArray, List.set_cons_succ, List.set_cons_zero]
    refine wpAnyH_ready (rs := [5]) (by kernel_rfl) (by simp) ?_
    refine hcons rfl rfl (fun K hK => ?_) ?_
    · clear hHeld
      refine owp_bslice1 (vs := [.int .u32 _]) hS rfl rfl (by rfl) (by decide) ?_
      clear hS; intro gk _ hS; try simp only [List.cons_append, List.nil_append, List.append_nil, List.set_cons_zero, List.set_cons_succ] at hS
      refine hK.out _ _ ⟨⟨(hS.get 1 rfl).cell 1024 Hp.out.2.1, (hS.get 1 rfl).cell 1025 Hp.out.2.2⟩, (hS.get 1 rfl).range 0 1024 Hp.out.1⟩ (fun hHeld => ?_)
      clear hK K
      simp only [Act.put, List.setIfInBounds_toArray, List.set_cons_succ, List.set_cons_zero]
      refine wpAnyH_ready (rs := [6]) (by kernel_rfl) (by simp) ?_
      refine hcons rfl rfl (fun K hK => ?_) ?_
      · clear hHeld
        have hcall := ofour_ok x (.slice a0 l.length c0) l (.slice (some ⟨gk, 0, none⟩) 1 1) [s.key] _ (hS.get 0 rfl) Hv.out ((RowV.lit 24 1 gk 1 [.int .u32 s.key] rfl (by decide)).read (hS.get 3 rfl)) (hS.apart 0 3 rfl rfl (by decide)) H4.out (by omega) (by simp)
        refine owp_call rfl (by kernel_rfl) (args := #[.slice a0 l.length c0, .slice (some ⟨gk, 0, none⟩) 1 1]) rfl hcall ?_
        clear hcall
        rintro e w5 ⟨v5, x5, rfl, hrow5, hc⟩
        rw [fours_one, Hl1.out] at hrow5
        replace hS := hS.call1 (N := []) 0 rfl hc
        try simp only [List.cons_append, List.nil_append, List.append_nil, List.set_cons_zero, List.set_cons_succ] at hS
        clear hc
        obtain ⟨a5, c5, rfl⟩ := hrow5.isSl
        refine ⟨_, rfl, ?_⟩
        refine hK.out _ _ ⟨⟨(hS.get 1 rfl).cell 1024 Hp.out.2.1, (hS.get 1 rfl).cell 1025 Hp.out.2.2⟩, (hS.get 1 rfl).range 0 1024 Hp.out.1⟩ (fun hHeld => ?_)
        clear hK K
        simp only [Act.put, List.setIfInBounds_toArray, List.set_cons_succ, List.set_cons_zero]
        refine wpAnyH_ready (rs := [12]) (by kernel_rfl) (by simp) ?_
        refine hcons rfl rfl (fun K hK => ?_) ?_
        · clear hHeld
          rw [← Hb.out] at hS
          have hcall := oone_ok x5 (.slice a5 (l.length + 4) c5) (l ++ enc 4 s.key) (.slice (some ⟨gn, 0, none⟩) 1 1) [UInt8.ofNat s.way.length] _ (hS.get 0 rfl) (by rw [Hl1.out]; exact hrow5) ((RowV.lit 5 1 gn 1 _ rfl (by decide)).read (hS.get 2 rfl)) (by rw [Hl1.out]; simp; omega)
          refine owp_call rfl (by kernel_rfl) (args := #[.slice a5 (l.length + 4) c5, .slice (some ⟨gn, 0, none⟩) 1 1]) rfl hcall ?_
          clear hcall
          rintro e w6 ⟨v6, x6, rfl, hrow6, hc⟩
          rw [Hl2.out] at hrow6
          replace hS := hS.call1 (N := []) 0 rfl hc
          try simp only [List.cons_append, List.nil_append, List.append_nil, List.set_cons_zero, List.set_cons_succ] at hS
          clear hc
          obtain ⟨a6, c6, rfl⟩ := hrow6.isSl
          refine ⟨_, rfl, ?_⟩
          refine hK.out _ _ ⟨⟨(hS.get 1 rfl).cell 1024 Hp.out.2.1, (hS.get 1 rfl).cell 1025 Hp.out.2.2⟩, (hS.get 1 rfl).range 0 1024 Hp.out.1⟩ (fun hHeld => ?_)
          clear hK K
          simp only [Act.put, List.setIfInBounds_toArray, List.set_cons_succ, List.set_cons_zero]
          refine wpAnyH_ready (rs := [13]) (by kernel_rfl) (by simp) ?_
          refine hcons rfl rfl (fun K hK => ?_) ?_
          · clear hHeld
            have hcall := Hlamp.out x6 (.slice a6 (l.length + 5) c6) (l ++ enc 4 s.key ++ [UInt8.ofNat s.way.length]) _ (hS.get 0 rfl) (by rw [Hl2.out]; exact hrow6) (by rw [Hl2.out]; omega)
            refine owp_call rfl (by kernel_rfl) (args := #[.agg s.l.cells.toArray, .slice a6 (l.length + 5) c6]) rfl hcall ?_
            clear hcall
            rintro e w7 ⟨v7, x7, rfl, hrow7, hc⟩
            rw [Hl3.out] at hrow7
            replace hS := hS.call1 (N := []) 0 rfl hc
            try simp only [List.cons_append, List.nil_append, List.append_nil, List.set_cons_zero, List.set_cons_succ] at hS
            clear hc
            obtain ⟨a7, c7, rfl⟩ := hrow7.isSl
            refine ⟨_, rfl, ?_⟩
            refine hK.out _ _ ⟨⟨(hS.get 1 rfl).cell 1024 Hp.out.2.1, (hS.get 1 rfl).cell 1025 Hp.out.2.2⟩, (hS.get 1 rfl).range 0 1024 Hp.out.1⟩ (fun hHeld => ?_)
            clear hK K
            simp only [Act.put, List.setIfInBounds_toArray, List.set_cons_succ, List.set_cons_zero]
            refine wpAnyH_ready (rs := [16]) (by kernel_rfl) (by simp) ?_
            refine hcons rfl rfl (fun K hK => ?_) ?_
            · clear hHeld
              have hcall := osum_ok x7 (.slice a7 (l.length + 1029) c7) (l ++ enc 4 s.key ++ [UInt8.ofNat s.way.length] ++ layLamp s.l) (.slice a1 s.way.length c1) s.way _ (hS.get 0 rfl) (by rw [Hl3.out]; exact hrow7) (Hw.out.st hS hd.not) (hd.st hS 0 rfl).not Hway.out (by rw [Hl3.out]; omega) (by omega)
              refine owp_call rfl (by kernel_rfl) (args := #[.slice a7 (l.length + 1029) c7, .slice a1 s.way.length c1]) rfl hcall ?_
              clear hcall
              rintro e w8 ⟨v8, x8, rfl, hrow8, hc⟩
              rw [← Hfin.out] at hrow8
              replace hS := hS.call1 (N := []) 0 rfl hc
              try simp only [List.cons_append, List.nil_append, List.append_nil, List.set_cons_zero, List.set_cons_succ] at hS
              clear hc
              obtain ⟨a8, c8, rfl⟩ := hrow8.isSl
              refine ⟨_, rfl, ?_⟩
              refine hK.out _ _ ⟨⟨(hS.get 1 rfl).cell 1024 Hp.out.2.1, (hS.get 1 rfl).cell 1025 Hp.out.2.2⟩, (hS.get 1 rfl).range 0 1024 Hp.out.1⟩ (fun hHeld => ?_)
              clear hK K
              simp only [Act.put, List.setIfInBounds_toArray, List.set_cons_succ, List.set_cons_zero]
              refine htake (i := 17) (v := (.slice a8 (l ++ laySig s).length c8)) rfl (by kernel_rfl) (by kernel_rfl) (by kernel_rfl) (fun _ _ _ h => h) (Or.inl ⟨by rfl, by (intro w hSw; (try dsimp only at hSw); (try obtain ⟨⟨h1, h2⟩, _⟩ := hSw); go_simp; try with_reducible rfl)⟩) (by assumption) ?_; simp only [Act.put, List.setIfInBounds_toArray, List.set_cons_succ, List.set_cons_zero]
              refine wpAnyH_done (by kernel_rfl) ?_ _
              clear hHeld
              replace hS := hS.pick [0, 1, 3, 2] rfl (by decide)
              go_wp2_with fail
              go_ret
              exact ⟨_, x8, rfl, hrow8, hS.pick [0] rfl (by decide)⟩
            exact AllReadyH.nil
          exact AllReadyH.nil
        exact AllReadyH.nil
      exact AllReadyH.nil
    exact AllReadyH.nil
  exact AllReadyH.nil

end Go.Proofs.Ytjgphbdffhmmgaa
