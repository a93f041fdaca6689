/-
  A condition, an operation, a memo laid to bytes by the program.
-/
import Derived.Test.YtldmkafobbemjaaB7
import Derived.Test.YtldmkafobbemjaaA9
namespace Go.Proofs.Ytldmkafobbemjaa
set_option linter.unusedSimpArgs false
set_option linter.unusedVariables false
open Go Go.RowKit
set_option maxRecDepth 100000
set_option maxHeartbeats 4000000

theorem layCond_ok (c : Cond) (hc : c.Ok) (x : Ent) (v : Value) (l : List UInt8) (w : World) (hb : Holds w x) (hv : RowV 5 1 v l.length (bs l) x) (hl : l.length ≤ 50000000) :
    Calls Try.prog 52 #[v, .agg c.cells.toArray] w (OPost w x (l ++ layCond c)) := by
  have hS := St.start w [x] (fun y hy => by simp at hy; subst hy; exact hb) (by cases x <;> simp [keys])
  obtain ⟨a0, c0, rfl⟩ := hv.isSl
  have Hr := Lib.hid (fun Q h w1 gs hS hfin => layCond_region Q h c hc x a0 c0 l c.cells gs w w1 hv hl rfl hS hfin)
  have Hlen := Lib.hid (show (l ++ layCond c).length = l.length + 57 by rw [List.length_append, layCond_length c hc.hash])
  clear hv hc
  generalize c.cells = cs at *
  go_enter Try.func52, Try.ntmps52
  go_upto_region 1 with (first
    | ((with_reducible show wpList _ _ _ (Oper.mk _ (Op.box _ _) _ _ _ _ :: _) _ _); refine wpl rfl ?_; refine owp_box hS rfl (vs := cs) rfl ?_; clear hS; intro gs _ hS; try simp only [List.cons_append, List.nil_append, List.append_nil, List.set_cons_zero, List.set_cons_succ] at hS))
  try simp only [Act.put, List.setIfInBounds_toArray, List.set_cons_succ, List.set_cons_zero]
  refine region_eq (show _ = ops61 by kernel_rfl) ?_
  refine Hr.out _ (fun _ _ d _ _ h => by cases d <;> exact h) _ gs hS ?_
  intro _ _ _ _ _ _ _ _ _ _ _ _ _ _ _ _ _ _ _ _ _ _ a8 c8 x8 w' hS hrow
  go_wp2_with fail
  go_ret
  refine ⟨_, x8, rfl, ?_, hS⟩
  rw [Hlen.out]
  exact hrow

set_option maxHeartbeats 4000000

structure Oop.Ok (o : Oop) : Prop where
  cond : o.cond.Ok
  kind : 0 ≤ o.kind ∧ o.kind ≤ 255
  amount : o.amount < 2 ^ 64
  id : o.id < 2 ^ 64

theorem layOp_length (o : Oop) (h : o.cond.hash.length = 32) : (layOp o).length = 74 := by
  simp only [layOp, List.length_append, enc_length, layCond_length _ h, List.length_cons, List.length_nil]

theorem two8 {n m : Nat} (h : n < 2 ^ 64) (h2 : m < 2 ^ 64) : ∀ k, k ∈ [n, m] → k < 2 ^ 64 := by
  intro k hk
  simp only [List.mem_cons, List.not_mem_nil, or_false] at hk
  rcases hk with rfl | rfl
  · exact h
  · exact h2

theorem layOp_ok (o : Oop) (ho : o.Ok) (x : Ent) (v : Value) (l : List UInt8) (w : World) (hb : Holds w x) (hv : RowV 5 1 v l.length (bs l) x) (hl : l.length ≤ 40000000) :
    Calls Try.prog 27 #[v, .agg o.cells.toArray] w (OPost w x (l ++ layOp o)) := by
  have hS := St.start w [x] (fun y hy => by simp at hy; subst hy; exact hb) (by cases x <;> simp [keys])
  obtain ⟨a0, c0, rfl⟩ := hv.isSl
  have Hv := Lib.hid hv
  have hcl := Cond.len o.cond ho.cond.hash
  have Hcl := Lib.hid hcl
  have Hc := Lib.hid (show (o.cells.drop 2).take 36 = o.cond.cells by simp [Oop.cells, List.take_append, hcl])
  have H0 := Lib.hid (show o.cells[0]? = some (.int .i64 o.kind) from rfl)
  have H1 := Lib.hid (show o.cells[1]? = some (.int .u64 o.amount) from rfl)
  have H38 := Lib.hid (show o.cells[38]? = some (.int .u64 o.id) by simp [Oop.cells, List.getElem?_append, hcl])
  have hkind := ho.kind
  have Hkind := Lib.hid (show bs [UInt8.ofNat o.kind.toNat] = [.int .u8 o.kind] by rw [B_small _ (by omega), Int.toNat_of_nonneg hkind.1])
  have hws : IntKind.u8.wrap o.kind = o.kind := by rw [IntKind.wrap_u8]; omega
  have hwm : o.kind % 256 = o.kind := by omega
  have L1 := Lib.hid (show (l ++ [UInt8.ofNat o.kind.toNat]).length = l.length + 1 by rw [List.length_append]; rfl)
  have L2 := Lib.hid (show (l ++ [UInt8.ofNat o.kind.toNat] ++ eights [o.amount, o.id]).length = l.length + 17 by rw [List.length_append, L1.out, eights_length]; rfl)
  have L3 := Lib.hid (show (l ++ layOp o).length = l.length + 74 by rw [List.length_append, layOp_length o ho.cond.hash])
  have Hfin := Lib.hid (show l ++ layOp o = l ++ [UInt8.ofNat o.kind.toNat] ++ eights [o.amount, o.id] ++ layCond o.cond by simp [layOp, eights_two, List.append_assoc])
  have H8 := Lib.hid (two8 ho.amount ho.id)
  have Hcond := Lib.hid (layCond_ok o.cond ho.cond)
  clear hv ho hcl
  generalize o.cells = cs at *
  go_enter Try.func27, Try.ntmps27
  go_upto_region 1 with (first
    | ((with_reducible show wpList _ _ _ (Oper.mk _ (Op.box _ _) _ _ _ _ :: _) _ _); refine wpl rfl ?_; refine owp_box hS rfl (vs := cs) rfl ?_; clear hS; intro gs _ hS; try simp only [List.cons_append, List.nil_append, List.append_nil, List.set_cons_zero, List.set_cons_succ] at hS))
  try simp only [Act.put, List.setIfInBounds_toArray, List.set_cons_succ, List.set_cons_zero]
  replace hS := hS.drew
  refine wp_region_held_drew (S := (fun w' => (w'.cell? ⟨gs, 0, none⟩ = some (.int .i64 o.kind) ∧ w'.cell? ⟨gs, 1, none⟩ = some (.int .u64 o.amount) ∧ w'.cell? ⟨gs, 38, none⟩ = some (.int .u64 o.id)) ∧ CellsAt w' ⟨gs, 2, none⟩ o.cond.cells)) (by kernel_rfl) ⟨⟨(hS.get 1 rfl).cell 0 H0.out, (hS.get 1 rfl).cell 1 H1.out, (hS.get 1 rfl).cell 38 H38.out⟩, (hS.get 1 rfl).range 2 36 Hc.out⟩ (fun hHeld => ?_)
  refine htake (i := 0) (v := (.slice a0 l.length c0)) rfl (by kernel_rfl) (by kernel_rfl) (by kernel_rfl) (fun _ _ _ h => h) (Or.inl ⟨by rfl, by (intro w hSw; (try dsimp only at hSw); (try obtain ⟨⟨h1, h2, h3⟩, _⟩ := hSw); go_simp; try with_reducible rfl)⟩) (by assumption) ?_; simp only [Act.put, List.setIfInBounds_toArray, List.set_cons_succ, List.set_cons_zero]
  refine htake (i := 1) (v := (.pointer (some ⟨gs, 0, none⟩))) rfl (by kernel_rfl) (by kernel_rfl) (by kernel_rfl) (fun _ _ _ h => h) (Or.inl ⟨by rfl, by (intro w hSw; (try dsimp only at hSw); (try obtain ⟨⟨h1, h2, h3⟩, _⟩ := hSw); go_simp; try with_reducible rfl)⟩) (by assumption) ?_; simp only [Act.put, List.setIfInBounds_toArray, List.set_cons_succ, List.set_cons_zero]
  refine htake (i := 2) (v := (.int .i64 o.kind)) rfl (by kernel_rfl) (by kernel_rfl) (by kernel_rfl) (fun _ _ _ h => h) (Or.inl ⟨by rfl, by (intro w hSw; (try dsimp only at hSw); (try obtain ⟨⟨h1, h2, h3⟩, _⟩ := hSw); go_simp; try with_reducible rfl)⟩) (by assumption) ?_; simp only [Act.put, List.setIfInBounds_toArray, List.set_cons_succ, List.set_cons_zero]
  refine htake (i := 3) (v := (.int .u8 o.kind)) rfl (by kernel_rfl) (by kernel_rfl) (by kernel_rfl) (fun _ _ _ h => h) (Or.inl ⟨by rfl, by (intro w hSw; (try dsimp only at hSw); (try obtain ⟨⟨h1, h2, h3⟩, _⟩ := hSw); go_simp; try with_reducible rfl)⟩) (by assumption) ?_; simp only [Act.put, List.setIfInBounds_toArray, List.set_cons_succ, List.set_cons_zero]
  refine htake (i := 6) (v := (.pointer (some ⟨gs, 1, none⟩))) rfl (by kernel_rfl) (by kernel_rfl) (by kernel_rfl) (fun _ _ _ h => h) (Or.inl ⟨by rfl, by (intro w hSw; (try dsimp only at hSw); (try obtain ⟨⟨h1, h2, h3⟩, _⟩ := hSw); go_simp; try with_reducible rfl)⟩) (by assumption) ?_; simp only [Act.put, List.setIfInBounds_toArray, List.set_cons_succ, List.set_cons_zero]
  refine htake (i := 7) (v := (.int .u64 o.amount)) rfl (by kernel_rfl) (by kernel_rfl) (by kernel_rfl) (fun _ _ _ h => h) (Or.inl ⟨by rfl, by (intro w hSw; (try dsimp only at hSw); (try obtain ⟨⟨h1, h2, h3⟩, _⟩ := hSw); go_simp; try with_reducible rfl)⟩) (by assumption) ?_; simp only [Act.put, List.setIfInBounds_toArray, List.set_cons_succ, List.set_cons_zero]
  refine htake (i := 8) (v := (.pointer (some ⟨gs, 38, none⟩))) rfl (by kernel_rfl) (by kernel_rfl) (by kernel_rfl) (fun _ _ _ h => h) (Or.inl ⟨by rfl, by (intro w hSw; (try dsimp only at hSw); (try obtain ⟨⟨h1, h2, h3⟩, _⟩ := hSw); go_simp; try with_reducible rfl)⟩) (by assumption) ?_; simp only [Act.put, List.setIfInBounds_toArray, List.set_cons_succ, List.set_cons_zero]
  refine htake (i := 9) (v := (.int .u64 o.id)) rfl (by kernel_rfl) (by kernel_rfl) (by kernel_rfl) (fun _ _ _ h => h) (Or.inl ⟨by rfl, by (intro w hSw; (try dsimp only at hSw); (try obtain ⟨⟨h1, h2, h3⟩, _⟩ := hSw); go_simp; try with_reducible rfl)⟩) (by assumption) ?_; simp only [Act.put, List.setIfInBounds_toArray, List.set_cons_succ, List.set_cons_zero]
  refine htake (i := 12) (v := (.pointer (some ⟨gs, 2, none⟩))) rfl (by kernel_rfl) (by kernel_rfl) (by kernel_rfl) (fun _ _ _ h => h) (Or.inl ⟨by rfl, by (intro w hSw; (try dsimp only at hSw); (try obtain ⟨⟨h1, h2, h3⟩, _⟩ := hSw); go_simp; try with_reducible rfl)⟩) (by assumption) ?_; simp only [Act.put, List.setIfInBounds_toArray, List.set_cons_succ, List.set_cons_zero]
  refine htake (i := 13) (v := (.agg o.cond.cells.toArray)) rfl (by kernel_rfl) (by kernel_rfl) (by kernel_rfl) (fun _ _ _ h => h) (Or.inl ⟨by rfl, yl_loadR rfl rfl Hcl.out (fun _ h => h.2)⟩) (by assumption) ?_; simp only [Act.put, List.setIfInBounds_toArray, List.set_cons_succ, List.set_cons_zero]
  refine wpAnyH_ready (rs := [4, 10]) (by kernel_rfl) (by simp) ?_
  refine hcons rfl rfl (fun K hK => ?_) ?_
  · clear hHeld
    refine owp_bslice1 (vs := [.int .u8 o.kind]) hS rfl rfl (by rfl) (by decide) ?_
    clear hS; intro gk _ hS; try simp only [List.cons_append, List.nil_append, List.append_nil, List.set_cons_zero, List.set_cons_succ] at hS
    rw [← Hkind.out] at hS
    refine hK.out _ _ ⟨⟨(hS.get 1 rfl).cell 0 H0.out, (hS.get 1 rfl).cell 1 H1.out, (hS.get 1 rfl).cell 38 H38.out⟩, (hS.get 1 rfl).range 2 36 Hc.out⟩ (fun hHeld => ?_)
    clear hK K
    simp only [Act.put, List.setIfInBounds_toArray, List.set_cons_succ, List.set_cons_zero]
    refine wpAnyH_ready (rs := [5, 10]) (by kernel_rfl) (by simp) ?_
    refine hcons rfl rfl (fun K hK => ?_) ?_
    · clear hHeld
      have hcall := oone_ok x (.slice a0 l.length c0) l (.slice (some ⟨gk, 0, none⟩) 1 1) [UInt8.ofNat o.kind.toNat] _ (hS.get 0 rfl) Hv.out ((RowV.lit 5 1 gk 1 _ rfl (by decide)).read (hS.get 2 rfl)) (by simp; omega)
      refine owp_call rfl (by kernel_rfl) (args := #[.slice a0 l.length c0, .slice (some ⟨gk, 0, none⟩) 1 1]) rfl hcall ?_
      clear hcall
      rintro e w5 ⟨v5, x5, rfl, hrow5, hc⟩
      rw [L1.out] at hrow5
      replace hS := hS.call1 (N := []) 0 rfl hc
      try simp only [List.cons_append, List.nil_append, List.append_nil, List.set_cons_zero, List.set_cons_succ] at hS
      clear hc
      obtain ⟨a5, c5, rfl⟩ := hrow5.isSl
      refine ⟨_, rfl, ?_⟩
      refine hK.out _ _ ⟨⟨(hS.get 1 rfl).cell 0 H0.out, (hS.get 1 rfl).cell 1 H1.out, (hS.get 1 rfl).cell 38 H38.out⟩, (hS.get 1 rfl).range 2 36 Hc.out⟩ (fun hHeld => ?_)
      clear hK K
      simp only [Act.put, List.setIfInBounds_toArray, List.set_cons_succ, List.set_cons_zero]
      refine wpAnyH_ready (rs := [10]) (by kernel_rfl) (by simp) ?_
      refine hcons rfl rfl (fun K hK => ?_) ?_
      · clear hHeld
        refine owp_bslice2 hS rfl rfl rfl rfl rfl ?_
        clear hS; intro gn _ hS; try simp only [List.cons_append, List.nil_append, List.append_nil, List.set_cons_zero, List.set_cons_succ] at hS
        refine hK.out _ _ ⟨⟨(hS.get 1 rfl).cell 0 H0.out, (hS.get 1 rfl).cell 1 H1.out, (hS.get 1 rfl).cell 38 H38.out⟩, (hS.get 1 rfl).range 2 36 Hc.out⟩ (fun hHeld => ?_)
        clear hK K
        simp only [Act.put, List.setIfInBounds_toArray, List.set_cons_succ, List.set_cons_zero]
        refine wpAnyH_ready (rs := [11]) (by kernel_rfl) (by simp) ?_
        refine hcons rfl rfl (fun K hK => ?_) ?_
        · clear hHeld
          have hcall := oeight_ok x5 (.slice a5 (l.length + 1) c5) (l ++ [UInt8.ofNat o.kind.toNat]) (.slice (some ⟨gn, 0, none⟩) 2 2) [o.amount, o.id] _ (hS.get 0 rfl) (by rw [L1.out]; exact hrow5) ((RowV.lit 27 1 gn 2 [.int .u64 o.amount, .int .u64 o.id] rfl (by decide)).read (hS.get 3 rfl)) (hS.apart 0 3 rfl rfl (by decide)) H8.out (by rw [L1.out]; omega) (by simp)
          refine owp_call rfl (by kernel_rfl) (args := #[.slice a5 (l.length + 1) c5, .slice (some ⟨gn, 0, none⟩) 2 2]) rfl hcall ?_
          clear hcall
          rintro e w6 ⟨v6, x6, rfl, hrow6, hc⟩
          rw [L2.out] at hrow6
          replace hS := hS.call1 (N := []) 0 rfl hc
          try simp only [List.cons_append, List.nil_append, List.append_nil, List.set_cons_zero, List.set_cons_succ] at hS
          clear hc
          obtain ⟨a6, c6, rfl⟩ := hrow6.isSl
          refine ⟨_, rfl, ?_⟩
          refine hK.out _ _ ⟨⟨(hS.get 1 rfl).cell 0 H0.out, (hS.get 1 rfl).cell 1 H1.out, (hS.get 1 rfl).cell 38 H38.out⟩, (hS.get 1 rfl).range 2 36 Hc.out⟩ (fun hHeld => ?_)
          clear hK K
          simp only [Act.put, List.setIfInBounds_toArray, List.set_cons_succ, List.set_cons_zero]
          refine wpAnyH_ready (rs := [14]) (by kernel_rfl) (by simp) ?_
          refine hcons rfl rfl (fun K hK => ?_) ?_
          · clear hHeld
            have hcall := Hcond.out x6 (.slice a6 (l.length + 17) c6) (l ++ [UInt8.ofNat o.kind.toNat] ++ eights [o.amount, o.id]) _ (hS.get 0 rfl) (by rw [L2.out]; exact hrow6) (by rw [L2.out]; omega)
            refine owp_call rfl (by kernel_rfl) (args := #[.slice a6 (l.length + 17) c6, .agg o.cond.cells.toArray]) rfl hcall ?_
            clear hcall
            rintro e w7 ⟨v7, x7, rfl, hrow7, hc⟩
            rw [← Hfin.out, L3.out] at hrow7
            replace hS := hS.call1 (N := []) 0 rfl hc
            try simp only [List.cons_append, List.nil_append, List.append_nil, List.set_cons_zero, List.set_cons_succ] at hS
            clear hc
            obtain ⟨a7, c7, rfl⟩ := hrow7.isSl
            refine ⟨_, rfl, ?_⟩
            refine hK.out _ _ ⟨⟨(hS.get 1 rfl).cell 0 H0.out, (hS.get 1 rfl).cell 1 H1.out, (hS.get 1 rfl).cell 38 H38.out⟩, (hS.get 1 rfl).range 2 36 Hc.out⟩ (fun hHeld => ?_)
            clear hK K
            simp only [Act.put, List.setIfInBounds_toArray, List.set_cons_succ, List.set_cons_zero]
            refine htake (i := 15) (v := (.slice a7 (l.length + 74) c7)) rfl (by kernel_rfl) (by kernel_rfl) (by kernel_rfl) (fun _ _ _ h => h) (Or.inl ⟨by rfl, by (intro w hSw; (try dsimp only at hSw); (try obtain ⟨⟨h1, h2, h3⟩, _⟩ := hSw); go_simp; try with_reducible rfl)⟩) (by assumption) ?_; simp only [Act.put, List.setIfInBounds_toArray, List.set_cons_succ, List.set_cons_zero]
            refine wpAnyH_done (by kernel_rfl) ?_ _
            clear hHeld
            go_wp2_with fail
            go_ret
            exact ⟨_, x7, rfl, by rw [L3.out]; exact hrow7, hS.pick [0] rfl (by decide)⟩
          exact AllReadyH.nil
        exact AllReadyH.nil
      exact AllReadyH.nil
    refine hcons rfl rfl (fun K hK => ?_) ?_
    · clear hHeld
      refine owp_bslice2 hS rfl rfl rfl rfl rfl ?_
      clear hS; intro gn _ hS; try simp only [List.cons_append, List.nil_append, List.append_nil, List.set_cons_zero, List.set_cons_succ] at hS
      refine hK.out _ _ ⟨⟨(hS.get 1 rfl).cell 0 H0.out, (hS.get 1 rfl).cell 1 H1.out, (hS.get 1 rfl).cell 38 H38.out⟩, (hS.get 1 rfl).range 2 36 Hc.out⟩ (fun hHeld => ?_)
      clear hK K
      simp only [Act.put, List.setIfInBounds_toArray, List.set_cons_succ, List.set_cons_zero]
      refine wpAnyH_ready (rs := [5]) (by kernel_rfl) (by simp) ?_
      refine hcons rfl rfl (fun K hK => ?_) ?_
      · clear hHeld
        have hcall := oone_ok x (.slice a0 l.length c0) l (.slice (some ⟨gk, 0, none⟩) 1 1) [UInt8.ofNat o.kind.toNat] _ (hS.get 0 rfl) Hv.out ((RowV.lit 5 1 gk 1 _ rfl (by decide)).read (hS.get 2 rfl)) (by simp; omega)
        refine owp_call rfl (by kernel_rfl) (args := #[.slice a0 l.length c0, .slice (some ⟨gk, 0, none⟩) 1 1]) rfl hcall ?_
        clear hcall
        rintro e w5 ⟨v5, x5, rfl, hrow5, hc⟩
        rw [L1.out] at hrow5
        replace hS := hS.call1 (N := []) 0 rfl hc
        try simp only [List.cons_append, List.nil_append, List.append_nil, List.set_cons_zero, List.set_cons_succ] at hS
        clear hc
        obtain ⟨a5, c5, rfl⟩ := hrow5.isSl
        refine ⟨_, rfl, ?_⟩
        refine hK.out _ _ ⟨⟨(hS.get 1 rfl).cell 0 H0.out, (hS.get 1 rfl).cell 1 H1.out, (hS.get 1 rfl).cell 38 H38.out⟩, (hS.get 1 rfl).range 2 36 Hc.out⟩ (fun hHeld => ?_)
        clear hK K
        simp only [Act.put, List.setIfInBounds_toArray, List.set_cons_succ, List.set_cons_zero]
        refine wpAnyH_ready (rs := [11]) (by kernel_rfl) (by simp) ?_
        refine hcons rfl rfl (fun K hK => ?_) ?_
        · clear hHeld
          have hcall := oeight_ok x5 (.slice a5 (l.length + 1) c5) (l ++ [UInt8.ofNat o.kind.toNat]) (.slice (some ⟨gn, 0, none⟩) 2 2) [o.amount, o.id] _ (hS.get 0 rfl) (by rw [L1.out]; exact hrow5) ((RowV.lit 27 1 gn 2 [.int .u64 o.amount, .int .u64 o.id] rfl (by decide)).read (hS.get 3 rfl)) (hS.apart 0 3 rfl rfl (by decide)) H8.out (by rw [L1.out]; omega) (by simp)
          refine owp_call rfl (by kernel_rfl) (args := #[.slice a5 (l.length + 1) c5, .slice (some ⟨gn, 0, none⟩) 2 2]) rfl hcall ?_
          clear hcall
          rintro e w6 ⟨v6, x6, rfl, hrow6, hc⟩
          rw [L2.out] at hrow6
          replace hS := hS.call1 (N := []) 0 rfl hc
          try simp only [List.cons_append, List.nil_append, List.append_nil, List.set_cons_zero, List.set_cons_succ] at hS
          clear hc
          obtain ⟨a6, c6, rfl⟩ := hrow6.isSl
          refine ⟨_, rfl, ?_⟩
          refine hK.out _ _ ⟨⟨(hS.get 1 rfl).cell 0 H0.out, (hS.get 1 rfl).cell 1 H1.out, (hS.get 1 rfl).cell 38 H38.out⟩, (hS.get 1 rfl).range 2 36 Hc.out⟩ (fun hHeld => ?_)
          clear hK K
          simp only [Act.put, List.setIfInBounds_toArray, List.set_cons_succ, List.set_cons_zero]
          refine wpAnyH_ready (rs := [14]) (by kernel_rfl) (by simp) ?_
          refine hcons rfl rfl (fun K hK => ?_) ?_
          · clear hHeld
            have hcall := Hcond.out x6 (.slice a6 (l.length + 17) c6) (l ++ [UInt8.ofNat o.kind.toNat] ++ eights [o.amount, o.id]) _ (hS.get 0 rfl) (by rw [L2.out]; exact hrow6) (by rw [L2.out]; omega)
            refine owp_call rfl (by kernel_rfl) (args := #[.slice a6 (l.length + 17) c6, .agg o.cond.cells.toArray]) rfl hcall ?_
            clear hcall
            rintro e w7 ⟨v7, x7, rfl, hrow7, hc⟩
            rw [← Hfin.out, L3.out] at hrow7
            replace hS := hS.call1 (N := []) 0 rfl hc
            try simp only [List.cons_append, List.nil_append, List.append_nil, List.set_cons_zero, List.set_cons_succ] at hS
            clear hc
            obtain ⟨a7, c7, rfl⟩ := hrow7.isSl
            refine ⟨_, rfl, ?_⟩
            refine hK.out _ _ ⟨⟨(hS.get 1 rfl).cell 0 H0.out, (hS.get 1 rfl).cell 1 H1.out, (hS.get 1 rfl).cell 38 H38.out⟩, (hS.get 1 rfl).range 2 36 Hc.out⟩ (fun hHeld => ?_)
            clear hK K
            simp only [Act.put, List.setIfInBounds_toArray, List.set_cons_succ, List.set_cons_zero]
            refine htake (i := 15) (v := (.slice a7 (l.length + 74) c7)) rfl (by kernel_rfl) (by kernel_rfl) (by kernel_rfl) (fun _ _ _ h => h) (Or.inl ⟨by rfl, by (intro w hSw; (try dsimp only at hSw); (try obtain ⟨⟨h1, h2, h3⟩, _⟩ := hSw); go_simp; try with_reducible rfl)⟩) (by assumption) ?_; simp only [Act.put, List.setIfInBounds_toArray, List.set_cons_succ, List.set_cons_zero]
            refine wpAnyH_done (by kernel_rfl) ?_ _
            clear hHeld
            go_wp2_with fail
            go_ret
            exact ⟨_, x7, rfl, by rw [L3.out]; exact hrow7, hS.pick [0] rfl (by decide)⟩
          exact AllReadyH.nil
        exact AllReadyH.nil
      exact AllReadyH.nil
    exact AllReadyH.nil
  refine hcons rfl rfl (fun K hK => ?_) ?_
  · clear hHeld
    refine owp_bslice2 hS rfl rfl rfl rfl rfl ?_
    clear hS; intro gn _ hS; try simp only [List.cons_append, List.nil_append, List.append_nil, List.set_cons_zero, List.set_cons_succ] at hS
    refine hK.out _ _ ⟨⟨(hS.get 1 rfl).cell 0 H0.out, (hS.get 1 rfl).cell 1 H1.out, (hS.get 1 rfl).cell 38 H38.out⟩, (hS.get 1 rfl).range 2 36 Hc.out⟩ (fun hHeld => ?_)
    clear hK K
    simp only [Act.put, List.setIfInBounds_toArray, List.set_cons_succ, List.set_cons_zero]
    refine wpAnyH_ready (rs := [4]) (by kernel_rfl) (by simp) ?_
    refine hcons rfl rfl (fun K hK => ?_) ?_
    · clear hHeld
      refine owp_bslice1 (vs := [.int .u8 o.kind]) hS rfl rfl (by rfl) (by decide) ?_
      clear hS; intro gk _ hS; try simp only [List.cons_append, List.nil_append, List.append_nil, List.set_cons_zero, List.set_cons_succ] at hS
      rw [← Hkind.out] at hS
      refine hK.out _ _ ⟨⟨(hS.get 1 rfl).cell 0 H0.out, (hS.get 1 rfl).cell 1 H1.out, (hS.get 1 rfl).cell 38 H38.out⟩, (hS.get 1 rfl).range 2 36 Hc.out⟩ (fun hHeld => ?_)
      clear hK K
      simp only [Act.put, List.setIfInBounds_toArray, List.set_cons_succ, List.set_cons_zero]
      refine wpAnyH_ready (rs := [5]) (by kernel_rfl) (by simp) ?_
      refine hcons rfl rfl (fun K hK => ?_) ?_
      · clear hHeld
        have hcall := oone_ok x (.slice a0 l.length c0) l (.slice (some ⟨gk, 0, none⟩) 1 1) [UInt8.ofNat o.kind.toNat] _ (hS.get 0 rfl) Hv.out ((RowV.lit 5 1 gk 1 _ rfl (by decide)).read (hS.get 3 rfl)) (by simp; omega)
        refine owp_call rfl (by kernel_rfl) (args := #[.slice a0 l.length c0, .slice (some ⟨gk, 0, none⟩) 1 1]) rfl hcall ?_
        clear hcall
        rintro e w5 ⟨v5, x5, rfl, hrow5, hc⟩
        rw [L1.out] at hrow5
        replace hS := hS.call1 (N := []) 0 rfl hc
        try simp only [List.cons_append, List.nil_append, List.append_nil, List.set_cons_zero, List.set_cons_succ] at hS
        clear hc
        obtain ⟨a5, c5, rfl⟩ := hrow5.isSl
        refine ⟨_, rfl, ?_⟩
        refine hK.out _ _ ⟨⟨(hS.get 1 rfl).cell 0 H0.out, (hS.get 1 rfl).cell 1 H1.out, (hS.get 1 rfl).cell 38 H38.out⟩, (hS.get 1 rfl).range 2 36 Hc.out⟩ (fun hHeld => ?_)
        clear hK K
        simp only [Act.put, List.setIfInBounds_toArray, List.set_cons_succ, List.set_cons_zero]
        refine wpAnyH_ready (rs := [11]) (by kernel_rfl) (by simp) ?_
        refine hcons rfl rfl (fun K hK => ?_) ?_
        · clear hHeld
          have hcall := oeight_ok x5 (.slice a5 (l.length + 1) c5) (l ++ [UInt8.ofNat o.kind.toNat]) (.slice (some ⟨gn, 0, none⟩) 2 2) [o.amount, o.id] _ (hS.get 0 rfl) (by rw [L1.out]; exact hrow5) ((RowV.lit 27 1 gn 2 [.int .u64 o.amount, .int .u64 o.id] rfl (by decide)).read (hS.get 2 rfl)) (hS.apart 0 2 rfl rfl (by decide)) H8.out (by rw [L1.out]; omega) (by simp)
          refine owp_call rfl (by kernel_rfl) (args := #[.slice a5 (l.length + 1) c5, .slice (some ⟨gn, 0, none⟩) 2 2]) rfl hcall ?_
          clear hcall
          rintro e w6 ⟨v6, x6, rfl, hrow6, hc⟩
          rw [L2.out] at hrow6
          replace hS := hS.call1 (N := []) 0 rfl hc
          try simp only [List.cons_append, List.nil_append, List.append_nil, List.set_cons_zero, List.set_cons_succ] at hS
          clear hc
          obtain ⟨a6, c6, rfl⟩ := hrow6.isSl
          refine ⟨_, rfl, ?_⟩
          refine hK.out _ _ ⟨⟨(hS.get 1 rfl).cell 0 H0.out, (hS.get 1 rfl).cell 1 H1.out, (hS.get 1 rfl).cell 38 H38.out⟩, (hS.get 1 rfl).range 2 36 Hc.out⟩ (fun hHeld => ?_)
          clear hK K
          simp only [Act.put, List.setIfInBounds_toArray, List.set_cons_succ, List.set_cons_zero]
          refine wpAnyH_ready (rs := [14]) (by kernel_rfl) (by simp) ?_
          refine hcons rfl rfl (fun K hK => ?_) ?_
          · clear hHeld
            have hcall := Hcond.out x6 (.slice a6 (l.length + 17) c6) (l ++ [UInt8.ofNat o.kind.toNat] ++ eights [o.amount, o.id]) _ (hS.get 0 rfl) (by rw [L2.out]; exact hrow6) (by rw [L2.out]; omega)
            refine owp_call rfl (by kernel_rfl) (args := #[.slice a6 (l.length + 17) c6, .agg o.cond.cells.toArray]) rfl hcall ?_
            clear hcall
            rintro e w7 ⟨v7, x7, rfl, hrow7, hc⟩
            rw [← Hfin.out, L3.out] at hrow7
            replace hS := hS.call1 (N := []) 0 rfl hc
            try simp only [List.cons_append, List.nil_append, List.append_nil, List.set_cons_zero, List.set_cons_succ] at hS
            clear hc
            obtain ⟨a7, c7, rfl⟩ := hrow7.isSl
            refine ⟨_, rfl, ?_⟩
            refine hK.out _ _ ⟨⟨(hS.get 1 rfl).cell 0 H0.out, (hS.get 1 rfl).cell 1 H1.out, (hS.get 1 rfl).cell 38 H38.out⟩, (hS.get 1 rfl).range 2 36 Hc.out⟩ (fun hHeld => ?_)
            clear hK K
            simp only [Act.put, List.setIfInBounds_toArray, List.set_cons_succ, List.set_cons_zero]
            refine htake (i := 15) (v := (.slice a7 (l.length + 74) c7)) rfl (by kernel_rfl) (by kernel_rfl) (by kernel_rfl) (fun _ _ _ h => h) (Or.inl ⟨by rfl, by (intro w hSw; (try dsimp only at hSw); (try obtain ⟨⟨h1, h2, h3⟩, _⟩ := hSw); go_simp; try with_reducible rfl)⟩) (by assumption) ?_; simp only [Act.put, List.setIfInBounds_toArray, List.set_cons_succ, List.set_cons_zero]
            refine wpAnyH_done (by kernel_rfl) ?_ _
            clear hHeld
            replace hS := hS.pick [0, 1, 3, 2] rfl (by decide)
            go_wp2_with fail
            go_ret
            exact ⟨_, x7, rfl, by rw [L3.out]; exact hrow7, hS.pick [0] rfl (by decide)⟩
          exact AllReadyH.nil
        exact AllReadyH.nil
      exact AllReadyH.nil
    exact AllReadyH.nil
  exact AllReadyH.nil

set_option maxHeartbeats 4000000

def memoBytes (m : Memo) : List UInt8 :=
  if m.kind = 1 then (((layHead m ++ enc 8 m.round) ++ layOp m.op) ++ layTrail m.trail) ++ laySig m.sig
  else if m.kind = 2 then (layHead m ++ enc 8 m.round) ++ laySig m.sig
  else layHead m

structure Memo.Ok (m : Memo) : Prop where
  full : m.Full
  channel : m.channel < 2 ^ 32
  round : m.round < 2 ^ 64
  cond : m.op.cond.id < 2 ^ 64 ∧ m.op.cond.amount < 2 ^ 64 ∧ m.op.cond.expiry < 2 ^ 64
  op : m.op.amount < 2 ^ 64 ∧ m.op.id < 2 ^ 64
  hops : ∀ h, h ∈ m.trail → h.Ok
  key : m.sig.key < 2 ^ 32

theorem right_kind {m : Memo} (h : m.right = true) : m.kind = 0 ∨ m.kind = 1 ∨ m.kind = 2 := by
  unfold Memo.right at h
  split at h
  · left; assumption
  · split at h
    · right; left; assumption
    · split at h
      · right; right; assumption
      · cases h
theorem right1 {m : Memo} (h : m.right = true) (hk : m.kind = 1) : (0 ≤ m.op.kind ∧ m.op.kind ≤ 5) ∧ m.trail.length ≤ 7 ∧ m.sig.way.length ≤ 8 ∧ (m.op.cond.side = 0 ∨ m.op.cond.side = 1) := by
  unfold Memo.right at h
  rw [if_neg (by omega), if_pos hk] at h
  simp only [Bool.and_eq_true, Bool.or_eq_true, decide_eq_true_eq, beq_iff_eq] at h
  exact ⟨⟨h.1.1.1.1, h.1.1.1.2⟩, h.1.1.2, h.1.2, h.2⟩
theorem right2 {m : Memo} (h : m.right = true) (hk : m.kind = 2) : m.bare = true ∧ m.sig.way.length ≤ 8 := by
  unfold Memo.right at h
  rw [if_neg (by omega), if_neg (by omega), if_pos hk] at h
  simp only [Bool.and_eq_true, decide_eq_true_eq] at h
  exact h
theorem Memo.Ok.oop {m : Memo} (h : m.Ok) (hr : m.right = true) (hk : m.kind = 1) : m.op.Ok := by
  obtain ⟨h1, -, -, h4⟩ := right1 hr hk
  exact ⟨⟨h.full.fit.hash, h.cond.1, by omega, h.cond.2.1, h.cond.2.2⟩, by omega, h.op.1, h.op.2⟩


end Go.Proofs.Ytldmkafobbemjaa
