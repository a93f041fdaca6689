/-
  A condition, an operation, a memo laid to bytes by the program.
-/
import Derived.Test.YtjgphbdffhmmgaaLay3
import Derived.Test.YtjgphbdffhmmgaaOut5
namespace Go.Proofs.Ytjgphbdffhmmgaa
set_option linter.unusedSimpArgs false
set_option linter.unusedVariables false
open Go Go.RowKit
set_option maxRecDepth 100000
set_option maxHeartbeats 4000000

theorem layCond_ok (c : Cond) (hc : c.Ok) (x : Ent) (v : Value) (l : List UInt8) (w : World) (hb : Holds w x) (hv : RowV 5 1 v l.length (bs l) x) (hl : l.length ≤ 50000000) :
    Calls Try.prog 61 #[v, .agg c.cells.toArray] w (OPost w x (l ++ layCond c)) := by
  have hS := St.start w [x] (fun y hy => by simp at hy; subst hy; exact hb) (by cases x <;> simp [keys])
  obtain ⟨a0, c0, rfl⟩ := hv.isSl
  have Hr := Lib.hid (fun Q h w1 gs hS hfin => layCond_region Q h c hc x a0 c0 l c.cells gs w w1 hv hl rfl hS hfin)
  have Hlen := Lib.hid (show (l ++ layCond c).length = l.length + 57 by rw [List.length_append, layCond_length c hc.hash])
  clear hv hc
  generalize c.cells = cs at *
  go_enter Try.func61, Try.ntmps61
  go_upto_region 1 with (first
    | ((with_reducible show wpList _ _ _ (Oper.mk _ (Op.box _ _) _ _ _ _ :: _) _ _); refine wpl rfl ?_; refine owp_box hS rfl (vs := cs) rfl ?_; clear hS; intro gs _ hS; try simp only [List.cons_append, List.nil_append, List.append_nil, List.set_cons_zero, List.set_cons_succ] at hS))
  try simp only [Act.put, List.setIfInBounds_toArray, List.set_cons_succ, List.set_cons_zero]
  refine region_eq (show _ = ops61 by kernel_rfl) ?_
  refine Hr.out _ (fun _ _ d _ _ h => by cases d <;> exact h) _ gs hS ?_
  intro _ _ _ _ _ _ _ _ _ _ _ _ _ _ _ _ _ _ _ _ _ _ a8 c8 x8 w' hS hrow
  go_wp2_with fail
  go_ret
  refine ⟨_, x8, rfl, ?_, hS⟩
  rw [Hlen.out]
  exact hrow

set_option maxHeartbeats 4000000

structure Oop.Ok (o : Oop) : Prop where
  cond : o.cond.Ok
  kind : 0 ≤ o.kind ∧ o.kind ≤ 255
  amount : o.amount < 2 ^ 64
  id : o.id < 2 ^ 64

theorem layOp_length (o : Oop) (h : o.cond.hash.length = 32) : (layOp o).length = 74 := by
  simp only [layOp, List.length_append, enc_length, layCond_length _ h, List.length_cons, List.length_nil]

theorem two8 {n m : Nat} (h : n < 2 ^ 64) (h2 : m < 2 ^ 64) : ∀ k, k ∈ [n, m] → k < 2 ^ 64 := by
  intro k hk
  simp only [List.mem_cons, List.not_mem_nil, or_false] at hk
  rcases hk with rfl | rfl
  · exact h
  · exact h2

theorem layOp_ok (o : Oop) (ho : o.Ok) (x : Ent) (v : Value) (l : List UInt8) (w : World) (hb : Holds w x) (hv : RowV 5 1 v l.length (bs l) x) (hl : l.length ≤ 40000000) :
    Calls Try.prog 44 #[v, .agg o.cells.toArray] w (OPost w x (l ++ layOp o)) := by
  have hS := St.start w [x] (fun y hy => by simp at hy; subst hy; exact hb) (by cases x <;> simp [keys])
  obtain ⟨a0, c0, rfl⟩ := hv.isSl
  have Hv := Lib.hid hv
  have hcl := Cond.len o.cond ho.cond.hash
  have Hcl := Lib.hid hcl
  have Hc := Lib.hid (show (o.cells.drop 2).take 36 = o.cond.cells by simp [Oop.cells, List.take_append, hcl])
  have H0 := Lib.hid (show o.cells[0]? = some (.int .i64 o.kind) from rfl)
  have H1 := Lib.hid (show o.cells[1]? = some (.int .u64 o.amount) from rfl)
  have H38 := Lib.hid (show o.cells[38]? = some (.int .u64 o.id) by simp [Oop.cells, List.getElem?_append, hcl])
  have hkind := ho.kind
  have Hkind := Lib.hid (show bs [UInt8.ofNat o.kind.toNat] = [.int .u8 o.kind] by rw [B_small _ (by omega), Int.toNat_of_nonneg hkind.1])
  have hws : IntKind.u8.wrap o.kind = o.kind := by rw [IntKind.wrap_u8]; omega
  have hwm : o.kind % 256 = o.kind := by omega
  have L1 := Lib.hid (show (l ++ [UInt8.ofNat o.kind.toNat]).length = l.length + 1 by rw [List.length_append]; rfl)
  have L2 := Lib.hid (show (l ++ [UInt8.ofNat o.kind.toNat] ++ eights [o.amount, o.id]).length = l.length + 17 by rw [List.length_append, L1.out, eights_length]; rfl)
  have L3 := Lib.hid (show (l ++ layOp o).length = l.length + 74 by rw [List.length_append, layOp_length o ho.cond.hash])
  have Hfin := Lib.hid (show l ++ layOp o = l ++ [UInt8.ofNat o.kind.toNat] ++ eights [o.amount, o.id] ++ layCond o.cond by simp [layOp, eights_two, List.append_assoc])
  have H8 := Lib.hid (two8 ho.amount ho.id)
  have Hcond := Lib.hid (layCond_ok o.cond ho.cond)
  clear hv ho hcl
  generalize o.cells = cs at *
  go_enter Try.func44, Try.ntmps44
  go_upto_region 1 with (first
    | ((with_reducible show wpList _ _ _ (Oper.mk _ (Op.box _ _) _ _ _ _ :: _) _ _); refine wpl rfl ?_; refine owp_box hS rfl (vs := cs) rfl ?_; clear hS; intro gs _ hS; try simp only [List.cons_append, List.nil_append, List.append_nil, List.set_cons_zero, List.set_cons_succ] at hS))
  try simp only [Act.put, List.setIfInBounds_toArray, List.set_cons_succ, List.set_cons_zero]
  replace hS := hS.drew
  refine wp_region_held_drew (S := (fun w' => (w'.cell? ⟨gs, 0, none⟩ = some (.int .i64 o.kind) ∧ w'.cell? ⟨gs, 1, none⟩ = some (.int .u64 o.amount) ∧ w'.cell? ⟨gs, 38, none⟩ = some (.int .u64 o.id)) ∧ CellsAt w' ⟨gs, 2, none⟩ o.cond.cells)) (by kernel_rfl) ⟨⟨(hS.get 1 rfl).cell 0 H0.out, (hS.get 1 rfl).cell 1 H1.out, (hS.get 1 rfl).cell 38 H38.out⟩, (hS.get 1 rfl).range 2 36 Hc.out⟩ (fun hHeld => ?_)
  refine htake (i := 0) (v := (.slice a0 l.length c0)) rfl (by kernel_rfl) (by kernel_rfl) (by kernel_rfl) (fun _ _ _ h => h) (Or.inl ⟨by rfl, by (intro w hSw; (try dsimp only at hSw); (try obtain ⟨⟨h1, h2, h3⟩, _⟩ := hSw); go_simp; try with_reducible rfl)⟩) (by assumption) ?_; simp only [Act.put, List.setIfInBounds_toArray, List.set_cons_succ, List.set_cons_zero]
  refine htake (i := 1) (v := (.pointer (some ⟨gs, 0, none⟩))) rfl (by kernel_rfl) (by kernel_rfl) (by kernel_rfl) (fun _ _ _ h => h) (Or.inl ⟨by rfl, by (intro w hSw; (try dsimp only at hSw); (try obtain ⟨⟨h1, h2, h3⟩, _⟩ := hSw); go_simp; try with_reducible rfl)⟩) (by assumption) ?_; simp only [Act.put, List.setIfInBounds_toArray, List.set_cons_succ, List.set_cons_zero]
  refine htake (i := 2) (v := (.int .i64 o.kind)) rfl (by kernel_rfl) (by kernel_rfl) (by kernel_rfl) (fun _ _ _ h => h) (Or.inl ⟨by rfl, by (intro w hSw; (try dsimp only at hSw); (try obtain ⟨⟨h1, h2, h3⟩, _⟩ := hSw); go_simp; try with_reducible rfl)⟩) (by assumption) ?_; simp only [Act.put, List.setIfInBounds_toArray, List.set_cons_succ, List.set_cons_zero]
  refine htake (i := 3) (v := (.int .u8 o.kind)) rfl (by kernel_rfl) (by kernel_rfl) (by kernel_rfl) (fun _ _ _ h => h) (Or.inl ⟨by rfl, by (intro w hSw; (try dsimp only at hSw); (try obtain ⟨⟨h1, h2, h3⟩, _⟩ := hSw); go_simp; try with_reducible rfl)⟩) (by assumption) ?_; simp only [Act.put, List.setIfInBounds_toArray, List.set_cons_succ, List.set_cons_zero]
  refine htake (i := 6) (v := (.pointer (some ⟨gs, 1, none⟩))) rfl (by kernel_rfl) (by kernel_rfl) (by kernel_rfl) (fun _ _ _ h => h) (Or.inl ⟨by rfl, by (intro w hSw; (try dsimp only at hSw); (try obtain ⟨⟨h1, h2, h3⟩, _⟩ := hSw); go_simp; try with_reducible rfl)⟩) (by assumption) ?_; simp only [Act.put, List.setIfInBounds_toArray, List.set_cons_succ, List.set_cons_zero]
  refine htake (i := 7) (v := (.int .u64 o.amount)) rfl (by kernel_rfl) (by kernel_rfl) (by kernel_rfl) (fun _ _ _ h => h) (Or.inl ⟨by rfl, by (intro w hSw; (try dsimp only at hSw); (try obtain ⟨⟨h1, h2, h3⟩, _⟩ := hSw); go_simp; try with_reducible rfl)⟩) (by assumption) ?_; simp only [Act.put, List.setIfInBounds_toArray, List.set_cons_succ, List.set_cons_zero]
  refine htake (i := 8) (v := (.pointer (some ⟨gs, 38, none⟩))) rfl (by kernel_rfl) (by kernel_rfl) (by kernel_rfl) (fun _ _ _ h => h) (Or.inl ⟨by rfl, by (intro w hSw; (try dsimp only at hSw); (try obtain ⟨⟨h1, h2, h3⟩, _⟩ := hSw); go_simp; try with_reducible rfl)⟩) (by assumption) ?_; simp only [Act.put, List.setIfInBounds_toArray, List.set_cons_succ, List.set_cons_zero]
  refine htake (i := 9) (v := (.int .u64 o.id)) rfl (by kernel_rfl) (by kernel_rfl) (by kernel_rfl) (fun _ _ _ h => h) (Or.inl ⟨by rfl, by (intro w hSw; (try dsimp only at hSw); (try obtain ⟨⟨h1, h2, h3⟩, _⟩ := hSw); go_simp; try with_reducible rfl)⟩) (by assumption) ?_; simp only [Act.put, List.setIfInBounds_toArray, List.set_cons_succ, List.set_cons_zero]
  refine htake (i := 12) (v := (.pointer (some ⟨gs, 2, none⟩))) rfl (by kernel_rfl) (by kernel_rfl) (by kernel_rfl) (fun _ _ _ h => h) (Or.inl ⟨by rfl, by (intro w hSw; (try dsimp only at hSw); (try obtain ⟨⟨h1, h2, h3⟩, _⟩ := hSw); go_simp; try with_reducible rfl)⟩) (by assumption) ?_; simp only [Act.put, List.setIfInBounds_toArray, List.set_cons_succ, List.set_cons_zero]
  refine htake (i := 13) (v := (.agg o.cond.cells.toArray)) rfl (by kernel_rfl) (by kernel_rfl) (by kernel_rfl) (fun _ _ _ h => h) (Or.inl ⟨by rfl, yl_loadR rfl rfl Hcl.out (fun _ h => h.2)⟩) (by assumption) ?_; simp only [Act.put, List.setIfInBounds_toArray, List.set_cons_succ, List.set_cons_zero]
  refine wpAnyH_ready (rs := [4, 10]) (by kernel_rfl) (by simp) ?_
  refine hcons rfl rfl (fun K hK => ?_) ?_
  · clear hHeld
    refine owp_bslice1 (vs := [.int .u8 o.kind]) hS rfl rfl (by rfl) (by decide) ?_
    clear hS; intro gk _ hS; try simp only [List.cons_append, List.nil_append, List.append_nil, List.set_cons_zero, List.set_cons_succ] at hS
    rw [← Hkind.out] at hS
    refine hK.out _ _ ⟨⟨(hS.get 1 rfl).cell 0 H0.out, (hS.get 1 rfl).cell 1 H1.out, (hS.get 1 rfl).cell 38 H38.out⟩, (hS.get 1 rfl).range 2 36 Hc.out⟩ (fun hHeld => ?_)
    clear hK K
    simp only [Act.put, List.setIfInBounds_toArray, List.set_cons_succ, List.set_cons_zero]
    refine wpAnyH_ready (rs := [5, 10]) (by kernel_rfl) (by simp) ?_
    refine hcons rfl rfl (fun K hK => ?_) ?_
    · clear hHeld
      have hcall := oone_ok x (.slice a0 l.length c0) l (.slice (some ⟨gk, 0, none⟩) 1 1) [UInt8.ofNat o.kind.toNat] _ (hS.get 0 rfl) Hv.out ((RowV.lit 5 1 gk 1 _ rfl (by decide)).read (hS.get 2 rfl)) (by simp; omega)
      refine owp_call rfl (by kernel_rfl) (args := #[.slice a0 l.length c0, .slice (some ⟨gk, 0, none⟩) 1 1]) rfl hcall ?_
      clear hcall
      rintro e w5 ⟨v5, x5, rfl, hrow5, hc⟩
      rw [L1.out] at hrow5
      replace hS := hS.call1 (N := []) 0 rfl hc
      try simp only [List.cons_append, List.nil_append, List.append_nil, List.set_cons_zero, List.set_cons_succ] at hS
      clear hc
      obtain ⟨a5, c5, rfl⟩ := hrow5.isSl
      refine ⟨_, rfl, ?_⟩
      refine hK.out _ _ ⟨⟨(hS.get 1 rfl).cell 0 H0.out, (hS.get 1 rfl).cell 1 H1.out, (hS.get 1 rfl).cell 38 H38.out⟩, (hS.get 1 rfl).range 2 36 Hc.out⟩ (fun hHeld => ?_)
      clear hK K
      simp only [Act.put, List.setIfInBounds_toArray, List.set_cons_succ, List.set_cons_zero]
      refine wpAnyH_ready (rs := [10]) (by kernel_rfl) (by simp) ?_
      refine hcons rfl rfl (fun K hK => ?_) ?_
      · clear hHeld
        refine owp_bslice2 hS rfl rfl rfl rfl rfl ?_
        clear hS; intro gn _ hS; try simp only [List.cons_append, List.nil_append, List.append_nil, List.set_cons_zero, List.set_cons_succ] at hS
        refine hK.out _ _ ⟨⟨(hS.get 1 rfl).cell 0 H0.out, (hS.get 1 rfl).cell 1 H1.out, (hS.get 1 rfl).cell 38 H38.out⟩, (hS.get 1 rfl).range 2 36 Hc.out⟩ (fun hHeld => ?_)
        clear hK K
        simp only [Act.put, List.setIfInBounds_toArray, List.set_cons_succ, List.set_cons_zero]
        refine wpAnyH_ready (rs := [11]) (by kernel_rfl) (by simp) ?_
        refine hcons rfl rfl (fun K hK => ?_) ?_
        · clear hHeld
          have hcall := oeight_ok x5 (.slice a5 (l.length + 1) c5) (l ++ [UInt8.ofNat o.kind.toNat]) (.slice (some ⟨gn, 0, none⟩) 2 2) [o.amount, o.id] _ (hS.get 0 rfl) (by rw [L1.out]; exact hrow5) ((RowV.lit 25 1 gn 2 [.int .u64 o.amount, .int .u64 o.id] rfl (by decide)).read (hS.get 3 rfl)) (hS.apart 0 3 rfl rfl (by decide)) H8.out (by rw [L1.out]; omega) (by simp)
          refine owp_call rfl (by kernel_rfl) (args := #[.slice a5 (l.length + 1) c5, .slice (some ⟨gn, 0, none⟩) 2 2]) rfl hcall ?_
          clear hcall
          rintro e w6 ⟨v6, x6, rfl, hrow6, hc⟩
          rw [L2.out] at hrow6
          replace hS := hS.call1 (N := []) 0 rfl hc
          try simp only [List.cons_append, List.nil_append, List.append_nil, List.set_cons_zero, List.set_cons_succ] at hS
          clear hc
          obtain ⟨a6, c6, rfl⟩ := hrow6.isSl
          refine ⟨_, rfl, ?_⟩
          refine hK.out _ _ ⟨⟨(hS.get 1 rfl).cell 0 H0.out, (hS.get 1 rfl).cell 1 H1.out, (hS.get 1 rfl).cell 38 H38.out⟩, (hS.get 1 rfl).range 2 36 Hc.out⟩ (fun hHeld => ?_)
          clear hK K
          simp only [Act.put, List.setIfInBounds_toArray, List.set_cons_succ, List.set_cons_zero]
          refine wpAnyH_ready (rs := [14]) (by kernel_rfl) (by simp) ?_
          refine hcons rfl rfl (fun K hK => ?_) ?_
          · clear hHeld
            have hcall := Hcond.out x6 (.slice a6 (l.length + 17) c6) (l ++ [UInt8.ofNat o.kind.toNat] ++ eights [o.amount, o.id]) _ (hS.get 0 rfl) (by rw [L2.out]; exact hrow6) (by rw [L2.out]; omega)
            refine owp_call rfl (by kernel_rfl) (args := #[.slice a6 (l.length + 17) c6, .agg o.cond.cells.toArray]) rfl hcall ?_
            clear hcall
            rintro e w7 ⟨v7, x7, rfl, hrow7, hc⟩
            rw [← Hfin.out, L3.out] at hrow7
            replace hS := hS.call1 (N := []) 0 rfl hc
            try simp only [List.cons_append, List.nil_append, List.append_nil, List.set_cons_zero, List.set_cons_succ] at hS
            clear hc
            obtain ⟨a7, c7, rfl⟩ := hrow7.isSl
            refine ⟨_, rfl, ?_⟩
            refine hK.out _ _ ⟨⟨(hS.get 1 rfl).cell 0 H0.out, (hS.get 1 rfl).cell 1 H1.out, (hS.get 1 rfl).cell 38 H38.out⟩, (hS.get 1 rfl).range 2 36 Hc.out⟩ (fun hHeld => ?_)
            clear hK K
            simp only [Act.put, List.setIfInBounds_toArray, List.set_cons_succ, List.set_cons_zero]
            refine htake (i := 15) (v := (.slice a7 (l.length + 74) c7)) rfl (by kernel_rfl) (by kernel_rfl) (by kernel_rfl) (fun _ _ _ h => h) (Or.inl ⟨by rfl, by (intro w hSw; (try dsimp only at hSw); (try obtain ⟨⟨h1, h2, h3⟩, _⟩ := hSw); go_simp; try with_reducible rfl)⟩) (by assumption) ?_; simp only [Act.put, List.setIfInBounds_toArray, List.set_cons_succ, List.set_cons_zero]
            refine wpAnyH_done (by kernel_rfl) ?_ _
            clear hHeld
            go_wp2_with fail
            go_ret
            exact ⟨_, x7, rfl, by rw [L3.out]; exact hrow7, hS.pick [0] rfl (by decide)⟩
          exact AllReadyH.nil
        exact AllReadyH.nil
      exact AllReadyH.nil
    refine hcons rfl rfl (fun K hK => ?_) ?_
    · clear hHeld
      refine owp_bslice2 hS rfl rfl rfl rfl rfl ?_
      clear hS; intro gn _ hS; try simp only [List.cons_append, List.nil_append, List.append_nil, List.set_cons_zero, List.set_cons_succ] at hS
      refine hK.out _ _ ⟨⟨(hS.get 1 rfl).cell 0 H0.out, (hS.get 1 rfl).cell 1 H1.out, (hS.get 1 rfl).cell 38 H38.out⟩, (hS.get 1 rfl).range 2 36 Hc.out⟩ (fun hHeld => ?_)
      clear hK K
      simp only [Act.put, List.setIfInBounds_toArray, List.set_cons_succ, List.set_cons_zero]
      refine wpAnyH_ready (rs := [5]) (by kernel_rfl) (by simp) ?_
      refine hcons rfl rfl (fun K hK => ?_) ?_
      · clear hHeld
        have hcall := oone_ok x (.slice a0 l.length c0) l (.slice (some ⟨gk, 0, none⟩) 1 1) [UInt8.ofNat o.kind.toNat] _ (hS.get 0 rfl) Hv.out ((RowV.lit 5 1 gk 1 _ rfl (by decide)).read (hS.get 2 rfl)) (by simp; omega)
        refine owp_call rfl (by kernel_rfl) (args := #[.slice a0 l.length c0, .slice (some ⟨gk, 0, none⟩) 1 1]) rfl hcall ?_
        clear hcall
        rintro e w5 ⟨v5, x5, rfl, hrow5, hc⟩
        rw [L1.out] at hrow5
        replace hS := hS.call1 (N := []) 0 rfl hc
        try simp only [List.cons_append, List.nil_append, List.append_nil, List.set_cons_zero, List.set_cons_succ] at hS
        clear hc
        obtain ⟨a5, c5, rfl⟩ := hrow5.isSl
        refine ⟨_, rfl, ?_⟩
        refine hK.out _ _ ⟨⟨(hS.get 1 rfl).cell 0 H0.out, (hS.get 1 rfl).cell 1 H1.out, (hS.get 1 rfl).cell 38 H38.out⟩, (hS.get 1 rfl).range 2 36 Hc.out⟩ (fun hHeld => ?_)
        clear hK K
        simp only [Act.put, List.setIfInBounds_toArray, List.set_cons_succ, List.set_cons_zero]
        refine wpAnyH_ready (rs := [11]) (by kernel_rfl) (by simp) ?_
        refine hcons rfl rfl (fun K hK => ?_) ?_
        · clear hHeld
          have hcall := oeight_ok x5 (.slice a5 (l.length + 1) c5) (l ++ [UInt8.ofNat o.kind.toNat]) (.slice (some ⟨gn, 0, none⟩) 2 2) [o.amount, o.id] _ (hS.get 0 rfl) (by rw [L1.out]; exact hrow5) ((RowV.lit 25 1 gn 2 [.int .u64 o.amount, .int .u64 o.id] rfl (by decide)).read (hS.get 3 rfl)) (hS.apart 0 3 rfl rfl (by decide)) H8.out (by rw [L1.out]; omega) (by simp)
          refine owp_call rfl (by kernel_rfl) (args := #[.slice a5 (l.length + 1) c5, .slice (some ⟨gn, 0, none⟩) 2 2]) rfl hcall ?_
          clear hcall
          rintro e w6 ⟨v6, x6, rfl, hrow6, hc⟩
          rw [L2.out] at hrow6
          replace hS := hS.call1 (N := []) 0 rfl hc
          try simp only [List.cons_append, List.nil_append, List.append_nil, List.set_cons_zero, List.set_cons_succ] at hS
          clear hc
          obtain ⟨a6, c6, rfl⟩ := hrow6.isSl
          refine ⟨_, rfl, ?_⟩
          refine hK.out _ _ ⟨⟨(hS.get 1 rfl).cell 0 H0.out, (hS.get 1 rfl).cell 1 H1.out, (hS.get 1 rfl).cell 38 H38.out⟩, (hS.get 1 rfl).range 2 36 Hc.out⟩ (fun hHeld => ?_)
          clear hK K
          simp only [Act.put, List.setIfInBounds_toArray, List.set_cons_succ, List.set_cons_zero]
          refine wpAnyH_ready (rs := [14]) (by kernel_rfl) (by simp) ?_
          refine hcons rfl rfl (fun K hK => ?_) ?_
          · clear hHeld
            have hcall := Hcond.out x6 (.slice a6 (l.length + 17) c6) (l ++ [UInt8.ofNat o.kind.toNat] ++ eights [o.amount, o.id]) _ (hS.get 0 rfl) (by rw [L2.out]; exact hrow6) (by rw [L2.out]; omega)
            refine owp_call rfl (by kernel_rfl) (args := #[.slice a6 (l.length + 17) c6, .agg o.cond.cells.toArray]) rfl hcall ?_
            clear hcall
            rintro e w7 ⟨v7, x7, rfl, hrow7, hc⟩
            rw [← Hfin.out, L3.out] at hrow7
            replace hS := hS.call1 (N := []) 0 rfl hc
            try simp only [List.cons_append, List.nil_append, List.append_nil, List.set_cons_zero, List.set_cons_succ] at hS
            clear hc
            obtain ⟨a7, c7, rfl⟩ := hrow7.isSl
            refine ⟨_, rfl, ?_⟩
            refine hK.out _ _ ⟨⟨(hS.get 1 rfl).cell 0 H0.out, (hS.get 1 rfl).cell 1 H1.out, (hS.get 1 rfl).cell 38 H38.out⟩, (hS.get 1 rfl).range 2 36 Hc.out⟩ (fun hHeld => ?_)
            clear hK K
            simp only [Act.put, List.setIfInBounds_toArray, List.set_cons_succ, List.set_cons_zero]
            refine htake (i := 15) (v := (.slice a7 (l.length + 74) c7)) rfl (by kernel_rfl) (by kernel_rfl) (by kernel_rfl) (fun _ _ _ h => h) (Or.inl ⟨by rfl, by (intro w hSw; (try dsimp only at hSw); (try obtain ⟨⟨h1, h2, h3⟩, _⟩ := hSw); go_simp; try with_reducible rfl)⟩) (by assumption) ?_; simp only [Act.put, List.setIfInBounds_toArray, List.set_cons_succ, List.set_cons_zero]
            refine wpAnyH_done (by kernel_rfl) ?_ _
            clear hHeld
            go_wp2_with fail
            go_ret
            exact ⟨_, x7, rfl, by rw [L3.out]; exact hrow7, hS.pick [0] rfl (by decide)⟩
          exact AllReadyH.nil
        exact AllReadyH.nil
      exact AllReadyH.nil
    exact AllReadyH.nil
  refine hcons rfl rfl (fun K hK => ?_) ?_
  · clear hHeld
    refine owp_bslice2 hS rfl rfl rfl rfl rfl ?_
    clear hS; intro gn _ hS; try simp only [List.cons_append, List.nil_append, List.append_nil, List.set_cons_zero, List.set_cons_succ] at hS
    refine hK.out _ _ ⟨⟨(hS.get 1 rfl).cell 0 H0.out, (hS.get 1 rfl).cell 1 H1.out, (hS.get 1 rfl).cell 38 H38.out⟩, (hS.get 1 rfl).range 2 36 Hc.out⟩ (fun hHeld => ?_)
    clear hK K
    simp only [Act.put, List.setIfInBounds_toArray, List.set_cons_succ, List.set_cons_zero]
    refine wpAnyH_ready (rs := [4]) (by kernel_rfl) (by simp) ?_
    refine hcons rfl rfl (fun K hK => ?_) ?_
    · clear hHeld
      refine owp_bslice1 (vs := [.int .u8 o.kind]) hS rfl rfl (by rfl) (by decide) ?_
      clear hS; intro gk _ hS; try simp only [List.cons_append, List.nil_append, List.append_nil, List.set_cons_zero, List.set_cons_succ] at hS
      rw [← Hkind.out] at hS
      refine hK.out _ _ ⟨⟨(hS.get 1 rfl).cell 0 H0.out, (hS.get 1 rfl).cell 1 H1.out, (hS.get 1 rfl).cell 38 H38.out⟩, (hS.get 1 rfl).range 2 36 Hc.out⟩ (fun hHeld => ?_)
      clear hK K
      simp only [Act.put, List.setIfInBounds_toArray, List.set_cons_succ, List.set_cons_zero]
      refine wpAnyH_ready (rs := [5]) (by kernel_rfl) (by simp) ?_
      refine hcons rfl rfl (fun K hK => ?_) ?_
      · clear hHeld
        have hcall := oone_ok x (.slice a0 l.length c0) l (.slice (some ⟨gk, 0, none⟩) 1 1) [UInt8.ofNat o.kind.toNat] _ (hS.get 0 rfl) Hv.out ((RowV.lit 5 1 gk 1 _ rfl (by decide)).read (hS.get 3 rfl)) (by simp; omega)
        refine owp_call rfl (by kernel_rfl) (args := #[.slice a0 l.length c0, .slice (some ⟨gk, 0, none⟩) 1 1]) rfl hcall ?_
        clear hcall
        rintro e w5 ⟨v5, x5, rfl, hrow5, hc⟩
        rw [L1.out] at hrow5
        replace hS := hS.call1 (N := []) 0 rfl hc
        try simp only [List.cons_append, List.nil_append, List.append_nil, List.set_cons_zero, List.set_cons_succ] at hS
        clear hc
        obtain ⟨a5, c5, rfl⟩ := hrow5.isSl
        refine ⟨_, rfl, ?_⟩
        refine hK.out _ _ ⟨⟨(hS.get 1 rfl).cell 0 H0.out, (hS.get 1 rfl).cell 1 H1.out, (hS.get 1 rfl).cell 38 H38.out⟩, (hS.get 1 rfl).range 2 36 Hc.out⟩ (fun hHeld => ?_)
        clear hK K
        simp only [Act.put, List.setIfInBounds_toArray, List.set_cons_succ, List.set_cons_zero]
        refine wpAnyH_ready (rs := [11]) (by kernel_rfl) (by simp) ?_
        refine hcons rfl rfl (fun K hK => ?_) ?_
        · clear hHeld
          have hcall := oeight_ok x5 (.slice a5 (l.length + 1) c5) (l ++ [UInt8.ofNat o.kind.toNat]) (.slice (some ⟨gn, 0, none⟩) 2 2) [o.amount, o.id] _ (hS.get 0 rfl) (by rw [L1.out]; exact hrow5) ((RowV.lit 25 1 gn 2 [.int .u64 o.amount, .int .u64 o.id] rfl (by decide)).read (hS.get 2 rfl)) (hS.apart 0 2 rfl rfl (by decide)) H8.out (by rw [L1.out]; omega) (by simp)
          refine owp_call rfl (by kernel_rfl) (args := #[.slice a5 (l.length + 1) c5, .slice (some ⟨gn, 0, none⟩) 2 2]) rfl hcall ?_
          clear hcall
          rintro e w6 ⟨v6, x6, rfl, hrow6, hc⟩
          rw [L2.out] at hrow6
          replace hS := hS.call1 (N := []) 0 rfl hc
          try simp only [List.cons_append, List.nil_append, List.append_nil, List.set_cons_zero, List.set_cons_succ] at hS
          clear hc
          obtain ⟨a6, c6, rfl⟩ := hrow6.isSl
          refine ⟨_, rfl, ?_⟩
          refine hK.out _ _ ⟨⟨(hS.get 1 rfl).cell 0 H0.out, (hS.get 1 rfl).cell 1 H1.out, (hS.get 1 rfl).cell 38 H38.out⟩, (hS.get 1 rfl).range 2 36 Hc.out⟩ (fun hHeld => ?_)
          clear hK K
          simp only [Act.put, List.setIfInBounds_toArray, List.set_cons_succ, List.set_cons_zero]
          refine wpAnyH_ready (rs := [14]) (by kernel_rfl) (by simp) ?_
          refine hcons rfl rfl (fun K hK => ?_) ?_
          · clear hHeld
            have hcall := Hcond.out x6 (.slice a6 (l.length + 17) c6) (l ++ [UInt8.ofNat o.kind.toNat] ++ eights [o.amount, o.id]) _ (hS.get 0 rfl) (by rw [L2.out]; exact hrow6) (by rw [L2.out]; omega)
            refine owp_call rfl (by kernel_rfl) (args := #[.slice a6 (l.length + 17) c6, .agg o.cond.cells.toArray]) rfl hcall ?_
            clear hcall
            rintro e w7 ⟨v7, x7, rfl, hrow7, hc⟩
            rw [← Hfin.out, L3.out] at hrow7
            replace hS := hS.call1 (N := []) 0 rfl hc
            try simp only [List.cons_append, List.nil_append, List.append_nil, List.set_cons_zero, List.set_cons_succ] at hS
            clear hc
            obtain ⟨a7, c7, rfl⟩ := hrow7.isSl
            refine ⟨_, rfl, ?_⟩
            refine hK.out _ _ ⟨⟨(hS.get 1 rfl).cell 0 H0.out, (hS.get 1 rfl).cell 1 H1.out, (hS.get 1 rfl).cell 38 H38.out⟩, (hS.get 1 rfl).range 2 36 Hc.out⟩ (fun hHeld => ?_)
            clear hK K
            simp only [Act.put, List.setIfInBounds_toArray, List.set_cons_succ, List.set_cons_zero]
            refine htake (i := 15) (v := (.slice a7 (l.length + 74) c7)) rfl (by kernel_rfl) (by kernel_rfl) (by kernel_rfl) (fun _ _ _ h => h) (Or.inl ⟨by rfl, by (intro w hSw; (try dsimp only at hSw); (try obtain ⟨⟨h1, h2, h3⟩, _⟩ := hSw); go_simp; try with_reducible rfl)⟩) (by assumption) ?_; simp only [Act.put, List.setIfInBounds_toArray, List.set_cons_succ, List.set_cons_zero]
            refine wpAnyH_done (by kernel_rfl) ?_ _
            clear hHeld
            replace hS := hS.pick [0, 1, 3, 2] rfl (by decide)
            go_wp2_with fail
            go_ret
            exact ⟨_, x7, rfl, by rw [L3.out]; exact hrow7, hS.pick [0] rfl (by decide)⟩
          exact AllReadyH.nil
        exact AllReadyH.nil
      exact AllReadyH.nil
    exact AllReadyH.nil
  exact AllReadyH.nil

set_option maxHeartbeats 4000000

def memoBytes (m : Memo) : List UInt8 :=
  if m.kind = 1 then (((layHead m ++ enc 8 m.round) ++ layOp m.op) ++ layTrail m.trail) ++ laySig m.sig
  else if m.kind = 2 then (layHead m ++ enc 8 m.round) ++ laySig m.sig
  else layHead m

structure Memo.Ok (m : Memo) : Prop where
  full : m.Full
  channel : m.channel < 2 ^ 32
  round : m.round < 2 ^ 64
  cond : m.op.cond.id < 2 ^ 64 ∧ m.op.cond.amount < 2 ^ 64 ∧ m.op.cond.expiry < 2 ^ 64
  op : m.op.amount < 2 ^ 64 ∧ m.op.id < 2 ^ 64
  hops : ∀ h, h ∈ m.trail → h.Ok
  key : m.sig.key < 2 ^ 32

theorem right_kind {m : Memo} (h : m.right = true) : m.kind = 0 ∨ m.kind = 1 ∨ m.kind = 2 := by
  unfold Memo.right at h
  split at h
  · left; assumption
  · split at h
    · right; left; assumption
    · split at h
      · right; right; assumption
      · cases h
theorem right1 {m : Memo} (h : m.right = true) (hk : m.kind = 1) : (0 ≤ m.op.kind ∧ m.op.kind ≤ 5) ∧ m.trail.length ≤ 7 ∧ m.sig.way.length ≤ 8 ∧ (m.op.cond.side = 0 ∨ m.op.cond.side = 1) := by
  unfold Memo.right at h
  rw [if_neg (by omega), if_pos hk] at h
  simp only [Bool.and_eq_true, Bool.or_eq_true, decide_eq_true_eq, beq_iff_eq] at h
  exact ⟨⟨h.1.1.1.1, h.1.1.1.2⟩, h.1.1.2, h.1.2, h.2⟩
theorem right2 {m : Memo} (h : m.right = true) (hk : m.kind = 2) : m.bare = true ∧ m.sig.way.length ≤ 8 := by
  unfold Memo.right at h
  rw [if_neg (by omega), if_neg (by omega), if_pos hk] at h
  simp only [Bool.and_eq_true, decide_eq_true_eq] at h
  exact h
theorem Memo.Ok.oop {m : Memo} (h : m.Ok) (hr : m.right = true) (hk : m.kind = 1) : m.op.Ok := by
  obtain ⟨h1, -, -, h4⟩ := right1 hr hk
  exact ⟨⟨h.full.fit.hash, h.cond.1, by omega, h.cond.2.1, h.cond.2.2⟩, by omega, h.op.1, h.op.2⟩


theorem bytes_ok (m : Memo) (cs : List Value) (a0 c0 a1 c1) (hm : m.At cs (.slice a0 m.trail.length c0) (.slice a1 m.sig.way.length c1)) (w : World) (hok : m.Ok) (hr : m.right = true)
    (ht : RowR w 3 (.slice a0 m.trail.length c0) m.trail.length (hopCells m.trail)) (hv : RowR w 32 (.slice a1 m.sig.way.length c1) m.sig.way.length (wayCells m.sig.way))
    (hft : Far w [] (.slice a0 m.trail.length c0)) (hfv : Far w [] (.slice a1 m.sig.way.length c1)) :
    Calls Try.prog 18 #[.agg cs.toArray] w (BytesPost w (memoBytes m)) := by
  have hS := St.nil w
  have Hm := Lib.hid hm
  have hkk := right_kind hr
  have hk0 : 0 ≤ m.kind := by omega
  have hk255 : m.kind < 256 := by omega
  have hch := hok.channel
  have Hr := Lib.hid hr
  have Hgs := Lib.hid (show (cs.drop 43).take 1026 = m.sig.cells (.slice a1 m.sig.way.length c1) by rw [hm.eq]; exact Memo.gs hm.fit _ _)
  have Hsl := Lib.hid (show (m.sig.cells (.slice a1 m.sig.way.length c1)).length = 1026 from Sig.len _ _ hm.fit.l)
  have Hol := Lib.hid (show m.op.cells.length = 39 from hm.fit.op)
  have Hhl := Lib.hid (layHead_length m)
  have Hn8 := Lib.hid (one8 hok.round)
  have L1 := Lib.hid (show (layHead m ++ enc 8 m.round).length = 13 by rw [List.length_append, layHead_length, enc_length])
  go_enter Try.func18, Try.ntmps18
  go_wp2_with (first
    | ((with_reducible show wpList _ _ _ (Oper.mk _ (Op.box _ _) _ _ _ _ :: _) _ _); refine wpl rfl ?_; refine owp_box hS rfl (vs := cs) rfl ?_; clear hS; intro gm _ hS; try simp only [List.cons_append, List.nil_append, List.append_nil, List.set_cons_zero, List.set_cons_succ] at hS)
    | ((with_reducible show wpList _ _ _ (Oper.mk _ (Op.load _ _) _ _ _ _ :: _) _ _); refine wpl rfl ?_; refine (owp_loadW hS 0 rfl rfl rfl (Hm.out.len) ?_)))
  refine (right_ok m cs a0 c0 a1 c1 hm _).mono ?_
  rintro e w2 ⟨rfl, hc⟩
  rw [hr]
  replace hS := hS.call0 hc
  try simp only [List.cons_append, List.nil_append, List.append_nil, List.set_cons_zero, List.set_cons_succ] at hS
  clear hc hr hm
  have Hkk := Lib.hid hkk
  clear hkk
  go_upto_region 3 with fail
  -- here: at region 3, hS at [gm]
  go_cut [4] (fun o wr => ∃ x, RowV 5 1 o 5 (bs (layHead m)) x ∧ St w [] wr [some (gm, cs, 43), x])
  case first =>
    have hk1 : m.kind % 256 = m.kind := by omega
    have hwk : IntKind.u8.wrap m.kind = m.kind := by rw [IntKind.wrap_u8]; omega
    have hb : bs [UInt8.ofNat m.kind.toNat] = [.int .u8 m.kind] := by
      rw [B_small _ (by omega), Int.toNat_of_nonneg hk0]
    have Hb := Lib.hid hb
    have H4 := Lib.hid (show ∀ n, n ∈ [m.channel] → n < 2 ^ 32 by intro n hn; simp only [List.mem_singleton] at hn; subst hn; exact hch)
    clear hb
    replace hS := hS.drew
    refine wp_region_held_drew (S := (fun w' => w'.cell? ⟨gm, 0, none⟩ = some (.int .i64 m.kind) ∧ w'.cell? ⟨gm, 1, none⟩ = some (.int .u32 m.channel))) (by kernel_rfl) ⟨(hS.get 0 rfl).cell 0 Hm.out.g0, (hS.get 0 rfl).cell 1 Hm.out.g1⟩ (fun hHeld => ?_)
    refine htake (i := 1) (v := (.pointer (some ⟨gm, 0, none⟩))) rfl (by kernel_rfl) (by kernel_rfl) (by kernel_rfl) (fun _ _ _ h => h) (Or.inl ⟨by rfl, by (intro w hSw; (try dsimp only at hSw); (try obtain ⟨h1, h2⟩ := hSw); go_simp; try with_reducible rfl)⟩) (by assumption) ?_; simp only [Act.put, List.setIfInBounds_toArray, List.set_cons_succ, List.set_cons_zero]
    refine htake (i := 2) (v := (.int .i64 m.kind)) rfl (by kernel_rfl) (by kernel_rfl) (by kernel_rfl) (fun _ _ _ h => h) (Or.inl ⟨by rfl, by (intro w hSw; (try dsimp only at hSw); (try obtain ⟨h1, h2⟩ := hSw); go_simp; try with_reducible rfl)⟩) (by assumption) ?_; simp only [Act.put, List.setIfInBounds_toArray, List.set_cons_succ, List.set_cons_zero]
    refine htake (i := 3) (v := (.int .u8 m.kind)) rfl (by kernel_rfl) (by kernel_rfl) (by kernel_rfl) (fun _ _ _ h => h) (Or.inl ⟨by rfl, by (intro w hSw; (try dsimp only at hSw); (try obtain ⟨h1, h2⟩ := hSw); go_simp; try with_reducible rfl)⟩) (by assumption) ?_; simp only [Act.put, List.setIfInBounds_toArray, List.set_cons_succ, List.set_cons_zero]
    refine htake (i := 6) (v := (.pointer (some ⟨gm, 1, none⟩))) rfl (by kernel_rfl) (by kernel_rfl) (by kernel_rfl) (fun _ _ _ h => h) (Or.inl ⟨by rfl, by (intro w hSw; (try dsimp only at hSw); (try obtain ⟨h1, h2⟩ := hSw); go_simp; try with_reducible rfl)⟩) (by assumption) ?_; simp only [Act.put, List.setIfInBounds_toArray, List.set_cons_succ, List.set_cons_zero]
    refine htake (i := 7) (v := (.int .u32 m.channel)) rfl (by kernel_rfl) (by kernel_rfl) (by kernel_rfl) (fun _ _ _ h => h) (Or.inl ⟨by rfl, by (intro w hSw; (try dsimp only at hSw); (try obtain ⟨h1, h2⟩ := hSw); go_simp; try with_reducible rfl)⟩) (by assumption) ?_; simp only [Act.put, List.setIfInBounds_toArray, List.set_cons_succ, List.set_cons_zero]
    refine wpAnyH_ready (rs := [0, 4, 8]) (by kernel_rfl) (by simp) ?_
    refine hcons rfl rfl (fun K hK => ?_) ?_
    · clear hHeld
      refine owp_bslice0 hS rfl ?_
      clear hS; intro go _ hS; try simp only [List.cons_append, List.nil_append, List.append_nil, List.set_cons_zero, List.set_cons_succ] at hS
      refine hK.out _ _ ⟨(hS.get 0 rfl).cell 0 Hm.out.g0, (hS.get 0 rfl).cell 1 Hm.out.g1⟩ (fun hHeld => ?_)
      clear hK K
      simp only [Act.put, List.setIfInBounds_toArray, List.set_cons_succ, List.set_cons_zero]
      refine wpAnyH_ready (rs := [4, 8]) (by kernel_rfl) (by simp) ?_
      refine hcons rfl rfl (fun K hK => ?_) ?_
      · clear hHeld
        refine owp_bslice1 (vs := [.int .u8 _]) hS rfl rfl (by rfl) (by decide) ?_
        clear hS; intro gk _ hS; try simp only [List.cons_append, List.nil_append, List.append_nil, List.set_cons_zero, List.set_cons_succ] at hS
        refine hK.out _ _ ⟨(hS.get 0 rfl).cell 0 Hm.out.g0, (hS.get 0 rfl).cell 1 Hm.out.g1⟩ (fun hHeld => ?_)
        clear hK K
        simp only [Act.put, List.setIfInBounds_toArray, List.set_cons_succ, List.set_cons_zero]
        refine wpAnyH_ready (rs := [5, 8]) (by kernel_rfl) (by simp) ?_
        refine hcons rfl rfl (fun K hK => ?_) ?_
        · clear hHeld
          rw [← Hb.out] at hS
          have hcall := oone_ok _ (.slice (some ⟨go, 0, none⟩) 0 0) [] (.slice (some ⟨gk, 0, none⟩) 1 1) [UInt8.ofNat m.kind.toNat] _ (hS.get 1 rfl) (RowV.lit 5 1 _ 0 [] rfl (Nat.zero_le _)) ((RowV.lit 5 1 gk 1 _ rfl (by decide)).read (hS.get 2 rfl)) (by simp)
          refine owp_call rfl (by kernel_rfl) (args := #[.slice (some ⟨go, 0, none⟩) 0 0, .slice (some ⟨gk, 0, none⟩) 1 1]) rfl hcall ?_
          clear hcall
          rintro e w5 ⟨v5, x5, rfl, hrow5, hc⟩
          rw [List.nil_append, show ([UInt8.ofNat m.kind.toNat] : List UInt8).length = 1 from rfl] at hrow5
          replace hS := hS.call1 (N := []) 1 rfl hc
          try simp only [List.cons_append, List.nil_append, List.append_nil, List.set_cons_zero, List.set_cons_succ] at hS
          clear hc
          obtain ⟨a5, c5, rfl⟩ := hrow5.isSl
          refine ⟨_, rfl, ?_⟩
          refine hK.out _ _ ⟨(hS.get 0 rfl).cell 0 Hm.out.g0, (hS.get 0 rfl).cell 1 Hm.out.g1⟩ (fun hHeld => ?_)
          clear hK K
          simp only [Act.put, List.setIfInBounds_toArray, List.set_cons_succ, List.set_cons_zero]
          refine wpAnyH_ready (rs := [8]) (by kernel_rfl) (by simp) ?_
          refine hcons rfl rfl (fun K hK => ?_) ?_
          · clear hHeld
            refine owp_bslice1 (vs := [.int .u32 _]) hS rfl rfl (by rfl) (by decide) ?_
            clear hS; intro gc _ hS; try simp only [List.cons_append, List.nil_append, List.append_nil, List.set_cons_zero, List.set_cons_succ] at hS
            refine hK.out _ _ ⟨(hS.get 0 rfl).cell 0 Hm.out.g0, (hS.get 0 rfl).cell 1 Hm.out.g1⟩ (fun hHeld => ?_)
            clear hK K
            simp only [Act.put, List.setIfInBounds_toArray, List.set_cons_succ, List.set_cons_zero]
            refine wpAnyH_ready (rs := [9]) (by kernel_rfl) (by simp) ?_
            refine hcons rfl rfl (fun K hK => ?_) ?_
            · clear hHeld
              have hcall := ofour_ok x5 (.slice a5 1 c5) [UInt8.ofNat m.kind.toNat] (.slice (some ⟨gc, 0, none⟩) 1 1) [m.channel] _ (hS.get 1 rfl) hrow5 ((RowV.lit 24 1 gc 1 [.int .u32 m.channel] rfl (by decide)).read (hS.get 3 rfl)) (hS.apart 1 3 rfl rfl (by decide)) H4.out (by simp) (by simp)
              refine owp_call rfl (by kernel_rfl) (args := #[.slice a5 1 c5, .slice (some ⟨gc, 0, none⟩) 1 1]) rfl hcall ?_
              clear hcall
              rintro e w6 ⟨v6, x6, rfl, hrow6, hc⟩
              rw [fours_one, show ([UInt8.ofNat m.kind.toNat] ++ enc 4 m.channel).length = 5 by rw [List.length_append, enc_length]; rfl] at hrow6
              replace hS := hS.call1 (N := []) 1 rfl hc
              try simp only [List.cons_append, List.nil_append, List.append_nil, List.set_cons_zero, List.set_cons_succ] at hS
              clear hc
              obtain ⟨a6, c6, rfl⟩ := hrow6.isSl
              refine ⟨_, rfl, ?_⟩
              refine hK.out _ _ ⟨(hS.get 0 rfl).cell 0 Hm.out.g0, (hS.get 0 rfl).cell 1 Hm.out.g1⟩ (fun hHeld => ?_)
              clear hK K
              simp only [Act.put, List.setIfInBounds_toArray, List.set_cons_succ, List.set_cons_zero]
              refine htake (i := 10) (v := (.slice a6 5 c6)) rfl (by kernel_rfl) (by kernel_rfl) (by kernel_rfl) (fun _ _ _ h => h) (Or.inl ⟨by rfl, by (intro w hSw; (try dsimp only at hSw); (try obtain ⟨h1, h2⟩ := hSw); go_simp; try with_reducible rfl)⟩) (by assumption) ?_; simp only [Act.put, List.setIfInBounds_toArray, List.set_cons_succ, List.set_cons_zero]
              refine wpAnyH_done (by kernel_rfl) ?_ _
              clear hHeld
              go_wp2_with fail
              go_meet
              exact ⟨x6, hrow6, hS.pick [0, 1] rfl (by decide)⟩
            exact AllReadyH.nil
          exact AllReadyH.nil
        refine hcons rfl rfl (fun K hK => ?_) ?_
        · clear hHeld
          refine owp_bslice1 (vs := [.int .u32 _]) hS rfl rfl (by rfl) (by decide) ?_
          clear hS; intro gc _ hS; try simp only [List.cons_append, List.nil_append, List.append_nil, List.set_cons_zero, List.set_cons_succ] at hS
          refine hK.out _ _ ⟨(hS.get 0 rfl).cell 0 Hm.out.g0, (hS.get 0 rfl).cell 1 Hm.out.g1⟩ (fun hHeld => ?_)
          clear hK K
          simp only [Act.put, List.setIfInBounds_toArray, List.set_cons_succ, List.set_cons_zero]
          refine wpAnyH_ready (rs := [5]) (by kernel_rfl) (by simp) ?_
          refine hcons rfl rfl (fun K hK => ?_) ?_
          · clear hHeld
            rw [← Hb.out] at hS
            have hcall := oone_ok _ (.slice (some ⟨go, 0, none⟩) 0 0) [] (.slice (some ⟨gk, 0, none⟩) 1 1) [UInt8.ofNat m.kind.toNat] _ (hS.get 1 rfl) (RowV.lit 5 1 _ 0 [] rfl (Nat.zero_le _)) ((RowV.lit 5 1 gk 1 _ rfl (by decide)).read (hS.get 2 rfl)) (by simp)
            refine owp_call rfl (by kernel_rfl) (args := #[.slice (some ⟨go, 0, none⟩) 0 0, .slice (some ⟨gk, 0, none⟩) 1 1]) rfl hcall ?_
            clear hcall
            rintro e w5 ⟨v5, x5, rfl, hrow5, hc⟩
            rw [List.nil_append, show ([UInt8.ofNat m.kind.toNat] : List UInt8).length = 1 from rfl] at hrow5
            replace hS := hS.call1 (N := []) 1 rfl hc
            try simp only [List.cons_append, List.nil_append, List.append_nil, List.set_cons_zero, List.set_cons_succ] at hS
            clear hc
            obtain ⟨a5, c5, rfl⟩ := hrow5.isSl
            refine ⟨_, rfl, ?_⟩
            refine hK.out _ _ ⟨(hS.get 0 rfl).cell 0 Hm.out.g0, (hS.get 0 rfl).cell 1 Hm.out.g1⟩ (fun hHeld => ?_)
            clear hK K
            simp only [Act.put, List.setIfInBounds_toArray, List.set_cons_succ, List.set_cons_zero]
            refine wpAnyH_ready (rs := [9]) (by kernel_rfl) (by simp) ?_
            refine hcons rfl rfl (fun K hK => ?_) ?_
            · clear hHeld
              have hcall := ofour_ok x5 (.slice a5 1 c5) [UInt8.ofNat m.kind.toNat] (.slice (some ⟨gc, 0, none⟩) 1 1) [m.channel] _ (hS.get 1 rfl) hrow5 ((RowV.lit 24 1 gc 1 [.int .u32 m.channel] rfl (by decide)).read (hS.get 3 rfl)) (hS.apart 1 3 rfl rfl (by decide)) H4.out (by simp) (by simp)
              refine owp_call rfl (by kernel_rfl) (args := #[.slice a5 1 c5, .slice (some ⟨gc, 0, none⟩) 1 1]) rfl hcall ?_
              clear hcall
              rintro e w6 ⟨v6, x6, rfl, hrow6, hc⟩
              rw [fours_one, show ([UInt8.ofNat m.kind.toNat] ++ enc 4 m.channel).length = 5 by rw [List.length_append, enc_length]; rfl] at hrow6
              replace hS := hS.call1 (N := []) 1 rfl hc
              try simp only [List.cons_append, List.nil_append, List.append_nil, List.set_cons_zero, List.set_cons_succ] at hS
              clear hc
              obtain ⟨a6, c6, rfl⟩ := hrow6.isSl
              refine ⟨_, rfl, ?_⟩
              refine hK.out _ _ ⟨(hS.get 0 rfl).cell 0 Hm.out.g0, (hS.get 0 rfl).cell 1 Hm.out.g1⟩ (fun hHeld => ?_)
              clear hK K
              simp only [Act.put, List.setIfInBounds_toArray, List.set_cons_succ, List.set_cons_zero]
              refine htake (i := 10) (v := (.slice a6 5 c6)) rfl (by kernel_rfl) (by kernel_rfl) (by kernel_rfl) (fun _ _ _ h => h) (Or.inl ⟨by rfl, by (intro w hSw; (try dsimp only at hSw); (try obtain ⟨h1, h2⟩ := hSw); go_simp; try with_reducible rfl)⟩) (by assumption) ?_; simp only [Act.put, List.setIfInBounds_toArray, List.set_cons_succ, List.set_cons_zero]
              refine wpAnyH_done (by kernel_rfl) ?_ _
              clear hHeld
              go_wp2_with fail
              go_meet
              exact ⟨x6, hrow6, hS.pick [0, 1] rfl (by decide)⟩
            exact AllReadyH.nil
          exact AllReadyH.nil
        exact AllReadyH.nil
      refine hcons rfl rfl (fun K hK => ?_) ?_
      · clear hHeld
        refine owp_bslice1 (vs := [.int .u32 _]) hS rfl rfl (by rfl) (by decide) ?_
        clear hS; intro gc _ hS; try simp only [List.cons_append, List.nil_append, List.append_nil, List.set_cons_zero, List.set_cons_succ] at hS
        refine hK.out _ _ ⟨(hS.get 0 rfl).cell 0 Hm.out.g0, (hS.get 0 rfl).cell 1 Hm.out.g1⟩ (fun hHeld => ?_)
        clear hK K
        simp only [Act.put, List.setIfInBounds_toArray, List.set_cons_succ, List.set_cons_zero]
        refine wpAnyH_ready (rs := [4]) (by kernel_rfl) (by simp) ?_
        refine hcons rfl rfl (fun K hK => ?_) ?_
        · clear hHeld
          refine owp_bslice1 (vs := [.int .u8 _]) hS rfl rfl (by rfl) (by decide) ?_
          clear hS; intro gk _ hS; try simp only [List.cons_append, List.nil_append, List.append_nil, List.set_cons_zero, List.set_cons_succ] at hS
          refine hK.out _ _ ⟨(hS.get 0 rfl).cell 0 Hm.out.g0, (hS.get 0 rfl).cell 1 Hm.out.g1⟩ (fun hHeld => ?_)
          clear hK K
          simp only [Act.put, List.setIfInBounds_toArray, List.set_cons_succ, List.set_cons_zero]
          refine wpAnyH_ready (rs := [5]) (by kernel_rfl) (by simp) ?_
          refine hcons rfl rfl (fun K hK => ?_) ?_
          · clear hHeld
            rw [← Hb.out] at hS
            have hcall := oone_ok _ (.slice (some ⟨go, 0, none⟩) 0 0) [] (.slice (some ⟨gk, 0, none⟩) 1 1) [UInt8.ofNat m.kind.toNat] _ (hS.get 1 rfl) (RowV.lit 5 1 _ 0 [] rfl (Nat.zero_le _)) ((RowV.lit 5 1 gk 1 _ rfl (by decide)).read (hS.get 3 rfl)) (by simp)
            refine owp_call rfl (by kernel_rfl) (args := #[.slice (some ⟨go, 0, none⟩) 0 0, .slice (some ⟨gk, 0, none⟩) 1 1]) rfl hcall ?_
            clear hcall
            rintro e w5 ⟨v5, x5, rfl, hrow5, hc⟩
            rw [List.nil_append, show ([UInt8.ofNat m.kind.toNat] : List UInt8).length = 1 from rfl] at hrow5
            replace hS := hS.call1 (N := []) 1 rfl hc
            try simp only [List.cons_append, List.nil_append, List.append_nil, List.set_cons_zero, List.set_cons_succ] at hS
            clear hc
            obtain ⟨a5, c5, rfl⟩ := hrow5.isSl
            refine ⟨_, rfl, ?_⟩
            refine hK.out _ _ ⟨(hS.get 0 rfl).cell 0 Hm.out.g0, (hS.get 0 rfl).cell 1 Hm.out.g1⟩ (fun hHeld => ?_)
            clear hK K
            simp only [Act.put, List.setIfInBounds_toArray, List.set_cons_succ, List.set_cons_zero]
            refine wpAnyH_ready (rs := [9]) (by kernel_rfl) (by simp) ?_
            refine hcons rfl rfl (fun K hK => ?_) ?_
            · clear hHeld
              have hcall := ofour_ok x5 (.slice a5 1 c5) [UInt8.ofNat m.kind.toNat] (.slice (some ⟨gc, 0, none⟩) 1 1) [m.channel] _ (hS.get 1 rfl) hrow5 ((RowV.lit 24 1 gc 1 [.int .u32 m.channel] rfl (by decide)).read (hS.get 2 rfl)) (hS.apart 1 2 rfl rfl (by decide)) H4.out (by simp) (by simp)
              refine owp_call rfl (by kernel_rfl) (args := #[.slice a5 1 c5, .slice (some ⟨gc, 0, none⟩) 1 1]) rfl hcall ?_
              clear hcall
              rintro e w6 ⟨v6, x6, rfl, hrow6, hc⟩
              rw [fours_one, show ([UInt8.ofNat m.kind.toNat] ++ enc 4 m.channel).length = 5 by rw [List.length_append, enc_length]; rfl] at hrow6
              replace hS := hS.call1 (N := []) 1 rfl hc
              try simp only [List.cons_append, List.nil_append, List.append_nil, List.set_cons_zero, List.set_cons_succ] at hS
              clear hc
              obtain ⟨a6, c6, rfl⟩ := hrow6.isSl
              refine ⟨_, rfl, ?_⟩
              refine hK.out _ _ ⟨(hS.get 0 rfl).cell 0 Hm.out.g0, (hS.get 0 rfl).cell 1 Hm.out.g1⟩ (fun hHeld => ?_)
              clear hK K
              simp only [Act.put, List.setIfInBounds_toArray, List.set_cons_succ, List.set_cons_zero]
              refine htake (i := 10) (v := (.slice a6 5 c6)) rfl (by kernel_rfl) (by kernel_rfl) (by kernel_rfl) (fun _ _ _ h => h) (Or.inl ⟨by rfl, by (intro w hSw; (try dsimp only at hSw); (try obtain ⟨h1, h2⟩ := hSw); go_simp; try with_reducible rfl)⟩) (by assumption) ?_; simp only [Act.put, List.setIfInBounds_toArray, List.set_cons_succ, List.set_cons_zero]
              refine wpAnyH_done (by kernel_rfl) ?_ _
              clear hHeld
              replace hS := hS.pick [0, 1, 3, 2] rfl (by decide)
              go_wp2_with fail
              go_meet
              exact ⟨x6, hrow6, hS.pick [0, 1] rfl (by decide)⟩
            exact AllReadyH.nil
          exact AllReadyH.nil
        exact AllReadyH.nil
      exact AllReadyH.nil
    refine hcons rfl rfl (fun K hK => ?_) ?_
    · clear hHeld
      refine owp_bslice1 (vs := [.int .u8 _]) hS rfl rfl (by rfl) (by decide) ?_
      clear hS; intro gk _ hS; try simp only [List.cons_append, List.nil_append, List.append_nil, List.set_cons_zero, List.set_cons_succ] at hS
      refine hK.out _ _ ⟨(hS.get 0 rfl).cell 0 Hm.out.g0, (hS.get 0 rfl).cell 1 Hm.out.g1⟩ (fun hHeld => ?_)
      clear hK K
      simp only [Act.put, List.setIfInBounds_toArray, List.set_cons_succ, List.set_cons_zero]
      refine wpAnyH_ready (rs := [0, 8]) (by kernel_rfl) (by simp) ?_
      refine hcons rfl rfl (fun K hK => ?_) ?_
      · clear hHeld
        refine owp_bslice0 hS rfl ?_
        clear hS; intro go _ hS; try simp only [List.cons_append, List.nil_append, List.append_nil, List.set_cons_zero, List.set_cons_succ] at hS
        refine hK.out _ _ ⟨(hS.get 0 rfl).cell 0 Hm.out.g0, (hS.get 0 rfl).cell 1 Hm.out.g1⟩ (fun hHeld => ?_)
        clear hK K
        simp only [Act.put, List.setIfInBounds_toArray, List.set_cons_succ, List.set_cons_zero]
        refine wpAnyH_ready (rs := [5, 8]) (by kernel_rfl) (by simp) ?_
        refine hcons rfl rfl (fun K hK => ?_) ?_
        · clear hHeld
          rw [← Hb.out] at hS
          have hcall := oone_ok _ (.slice (some ⟨go, 0, none⟩) 0 0) [] (.slice (some ⟨gk, 0, none⟩) 1 1) [UInt8.ofNat m.kind.toNat] _ (hS.get 2 rfl) (RowV.lit 5 1 _ 0 [] rfl (Nat.zero_le _)) ((RowV.lit 5 1 gk 1 _ rfl (by decide)).read (hS.get 1 rfl)) (by simp)
          refine owp_call rfl (by kernel_rfl) (args := #[.slice (some ⟨go, 0, none⟩) 0 0, .slice (some ⟨gk, 0, none⟩) 1 1]) rfl hcall ?_
          clear hcall
          rintro e w5 ⟨v5, x5, rfl, hrow5, hc⟩
          rw [List.nil_append, show ([UInt8.ofNat m.kind.toNat] : List UInt8).length = 1 from rfl] at hrow5
          replace hS := hS.call1 (N := []) 2 rfl hc
          try simp only [List.cons_append, List.nil_append, List.append_nil, List.set_cons_zero, List.set_cons_succ] at hS
          clear hc
          obtain ⟨a5, c5, rfl⟩ := hrow5.isSl
          refine ⟨_, rfl, ?_⟩
          refine hK.out _ _ ⟨(hS.get 0 rfl).cell 0 Hm.out.g0, (hS.get 0 rfl).cell 1 Hm.out.g1⟩ (fun hHeld => ?_)
          clear hK K
          simp only [Act.put, List.setIfInBounds_toArray, List.set_cons_succ, List.set_cons_zero]
          refine wpAnyH_ready (rs := [8]) (by kernel_rfl) (by simp) ?_
          refine hcons rfl rfl (fun K hK => ?_) ?_
          · clear hHeld
            refine owp_bslice1 (vs := [.int .u32 _]) hS rfl rfl (by rfl) (by decide) ?_
            clear hS; intro gc _ hS; try simp only [List.cons_append, List.nil_append, List.append_nil, List.set_cons_zero, List.set_cons_succ] at hS
            refine hK.out _ _ ⟨(hS.get 0 rfl).cell 0 Hm.out.g0, (hS.get 0 rfl).cell 1 Hm.out.g1⟩ (fun hHeld => ?_)
            clear hK K
            simp only [Act.put, List.setIfInBounds_toArray, List.set_cons_succ, List.set_cons_zero]
            refine wpAnyH_ready (rs := [9]) (by kernel_rfl) (by simp) ?_
            refine hcons rfl rfl (fun K hK => ?_) ?_
            · clear hHeld
              have hcall := ofour_ok x5 (.slice a5 1 c5) [UInt8.ofNat m.kind.toNat] (.slice (some ⟨gc, 0, none⟩) 1 1) [m.channel] _ (hS.get 2 rfl) hrow5 ((RowV.lit 24 1 gc 1 [.int .u32 m.channel] rfl (by decide)).read (hS.get 3 rfl)) (hS.apart 2 3 rfl rfl (by decide)) H4.out (by simp) (by simp)
              refine owp_call rfl (by kernel_rfl) (args := #[.slice a5 1 c5, .slice (some ⟨gc, 0, none⟩) 1 1]) rfl hcall ?_
              clear hcall
              rintro e w6 ⟨v6, x6, rfl, hrow6, hc⟩
              rw [fours_one, show ([UInt8.ofNat m.kind.toNat] ++ enc 4 m.channel).length = 5 by rw [List.length_append, enc_length]; rfl] at hrow6
              replace hS := hS.call1 (N := []) 2 rfl hc
              try simp only [List.cons_append, List.nil_append, List.append_nil, List.set_cons_zero, List.set_cons_succ] at hS
              clear hc
              obtain ⟨a6, c6, rfl⟩ := hrow6.isSl
              refine ⟨_, rfl, ?_⟩
              refine hK.out _ _ ⟨(hS.get 0 rfl).cell 0 Hm.out.g0, (hS.get 0 rfl).cell 1 Hm.out.g1⟩ (fun hHeld => ?_)
              clear hK K
              simp only [Act.put, List.setIfInBounds_toArray, List.set_cons_succ, List.set_cons_zero]
              refine htake (i := 10) (v := (.slice a6 5 c6)) rfl (by kernel_rfl) (by kernel_rfl) (by kernel_rfl) (fun _ _ _ h => h) (Or.inl ⟨by rfl, by (intro w hSw; (try dsimp only at hSw); (try obtain ⟨h1, h2⟩ := hSw); go_simp; try with_reducible rfl)⟩) (by assumption) ?_; simp only [Act.put, List.setIfInBounds_toArray, List.set_cons_succ, List.set_cons_zero]
              refine wpAnyH_done (by kernel_rfl) ?_ _
              clear hHeld
              replace hS := hS.pick [0, 2, 1, 3] rfl (by decide)
              go_wp2_with fail
              go_meet
              exact ⟨x6, hrow6, hS.pick [0, 1] rfl (by decide)⟩
            exact AllReadyH.nil
          exact AllReadyH.nil
        refine hcons rfl rfl (fun K hK => ?_) ?_
        · clear hHeld
          refine owp_bslice1 (vs := [.int .u32 _]) hS rfl rfl (by rfl) (by decide) ?_
          clear hS; intro gc _ hS; try simp only [List.cons_append, List.nil_append, List.append_nil, List.set_cons_zero, List.set_cons_succ] at hS
          refine hK.out _ _ ⟨(hS.get 0 rfl).cell 0 Hm.out.g0, (hS.get 0 rfl).cell 1 Hm.out.g1⟩ (fun hHeld => ?_)
          clear hK K
          simp only [Act.put, List.setIfInBounds_toArray, List.set_cons_succ, List.set_cons_zero]
          refine wpAnyH_ready (rs := [5]) (by kernel_rfl) (by simp) ?_
          refine hcons rfl rfl (fun K hK => ?_) ?_
          · clear hHeld
            rw [← Hb.out] at hS
            have hcall := oone_ok _ (.slice (some ⟨go, 0, none⟩) 0 0) [] (.slice (some ⟨gk, 0, none⟩) 1 1) [UInt8.ofNat m.kind.toNat] _ (hS.get 2 rfl) (RowV.lit 5 1 _ 0 [] rfl (Nat.zero_le _)) ((RowV.lit 5 1 gk 1 _ rfl (by decide)).read (hS.get 1 rfl)) (by simp)
            refine owp_call rfl (by kernel_rfl) (args := #[.slice (some ⟨go, 0, none⟩) 0 0, .slice (some ⟨gk, 0, none⟩) 1 1]) rfl hcall ?_
            clear hcall
            rintro e w5 ⟨v5, x5, rfl, hrow5, hc⟩
            rw [List.nil_append, show ([UInt8.ofNat m.kind.toNat] : List UInt8).length = 1 from rfl] at hrow5
            replace hS := hS.call1 (N := []) 2 rfl hc
            try simp only [List.cons_append, List.nil_append, List.append_nil, List.set_cons_zero, List.set_cons_succ] at hS
            clear hc
            obtain ⟨a5, c5, rfl⟩ := hrow5.isSl
            refine ⟨_, rfl, ?_⟩
            refine hK.out _ _ ⟨(hS.get 0 rfl).cell 0 Hm.out.g0, (hS.get 0 rfl).cell 1 Hm.out.g1⟩ (fun hHeld => ?_)
            clear hK K
            simp only [Act.put, List.setIfInBounds_toArray, List.set_cons_succ, List.set_cons_zero]
            refine wpAnyH_ready (rs := [9]) (by kernel_rfl) (by simp) ?_
            refine hcons rfl rfl (fun K hK => ?_) ?_
            · clear hHeld
              have hcall := ofour_ok x5 (.slice a5 1 c5) [UInt8.ofNat m.kind.toNat] (.slice (some ⟨gc, 0, none⟩) 1 1) [m.channel] _ (hS.get 2 rfl) hrow5 ((RowV.lit 24 1 gc 1 [.int .u32 m.channel] rfl (by decide)).read (hS.get 3 rfl)) (hS.apart 2 3 rfl rfl (by decide)) H4.out (by simp) (by simp)
              refine owp_call rfl (by kernel_rfl) (args := #[.slice a5 1 c5, .slice (some ⟨gc, 0, none⟩) 1 1]) rfl hcall ?_
              clear hcall
              rintro e w6 ⟨v6, x6, rfl, hrow6, hc⟩
              rw [fours_one, show ([UInt8.ofNat m.kind.toNat] ++ enc 4 m.channel).length = 5 by rw [List.length_append, enc_length]; rfl] at hrow6
              replace hS := hS.call1 (N := []) 2 rfl hc
              try simp only [List.cons_append, List.nil_append, List.append_nil, List.set_cons_zero, List.set_cons_succ] at hS
              clear hc
              obtain ⟨a6, c6, rfl⟩ := hrow6.isSl
              refine ⟨_, rfl, ?_⟩
              refine hK.out _ _ ⟨(hS.get 0 rfl).cell 0 Hm.out.g0, (hS.get 0 rfl).cell 1 Hm.out.g1⟩ (fun hHeld => ?_)
              clear hK K
              simp only [Act.put, List.setIfInBounds_toArray, List.set_cons_succ, List.set_cons_zero]
              refine htake (i := 10) (v := (.slice a6 5 c6)) rfl (by kernel_rfl) (by kernel_rfl) (by kernel_rfl) (fun _ _ _ h => h) (Or.inl ⟨by rfl, by (intro w hSw; (try dsimp only at hSw); (try obtain ⟨h1, h2⟩ := hSw); go_simp; try with_reducible rfl)⟩) (by assumption) ?_; simp only [Act.put, List.setIfInBounds_toArray, List.set_cons_succ, List.set_cons_zero]
              refine wpAnyH_done (by kernel_rfl) ?_ _
              clear hHeld
              replace hS := hS.pick [0, 2, 1, 3] rfl (by decide)
              go_wp2_with fail
              go_meet
              exact ⟨x6, hrow6, hS.pick [0, 1] rfl (by decide)⟩
            exact AllReadyH.nil
          exact AllReadyH.nil
        exact AllReadyH.nil
      refine hcons rfl rfl (fun K hK => ?_) ?_
      · clear hHeld
        refine owp_bslice1 (vs := [.int .u32 _]) hS rfl rfl (by rfl) (by decide) ?_
        clear hS; intro gc _ hS; try simp only [List.cons_append, List.nil_append, List.append_nil, List.set_cons_zero, List.set_cons_succ] at hS
        refine hK.out _ _ ⟨(hS.get 0 rfl).cell 0 Hm.out.g0, (hS.get 0 rfl).cell 1 Hm.out.g1⟩ (fun hHeld => ?_)
        clear hK K
        simp only [Act.put, List.setIfInBounds_toArray, List.set_cons_succ, List.set_cons_zero]
        refine wpAnyH_ready (rs := [0]) (by kernel_rfl) (by simp) ?_
        refine hcons rfl rfl (fun K hK => ?_) ?_
        · clear hHeld
          refine owp_bslice0 hS rfl ?_
          clear hS; intro go _ hS; try simp only [List.cons_append, List.nil_append, List.append_nil, List.set_cons_zero, List.set_cons_succ] at hS
          refine hK.out _ _ ⟨(hS.get 0 rfl).cell 0 Hm.out.g0, (hS.get 0 rfl).cell 1 Hm.out.g1⟩ (fun hHeld => ?_)
          clear hK K
          simp only [Act.put, List.setIfInBounds_toArray, List.set_cons_succ, List.set_cons_zero]
          refine wpAnyH_ready (rs := [5]) (by kernel_rfl) (by simp) ?_
          refine hcons rfl rfl (fun K hK => ?_) ?_
          · clear hHeld
            rw [← Hb.out] at hS
            have hcall := oone_ok _ (.slice (some ⟨go, 0, none⟩) 0 0) [] (.slice (some ⟨gk, 0, none⟩) 1 1) [UInt8.ofNat m.kind.toNat] _ (hS.get 3 rfl) (RowV.lit 5 1 _ 0 [] rfl (Nat.zero_le _)) ((RowV.lit 5 1 gk 1 _ rfl (by decide)).read (hS.get 1 rfl)) (by simp)
            refine owp_call rfl (by kernel_rfl) (args := #[.slice (some ⟨go, 0, none⟩) 0 0, .slice (some ⟨gk, 0, none⟩) 1 1]) rfl hcall ?_
            clear hcall
            rintro e w5 ⟨v5, x5, rfl, hrow5, hc⟩
            rw [List.nil_append, show ([UInt8.ofNat m.kind.toNat] : List UInt8).length = 1 from rfl] at hrow5
            replace hS := hS.call1 (N := []) 3 rfl hc
            try simp only [List.cons_append, List.nil_append, List.append_nil, List.set_cons_zero, List.set_cons_succ] at hS
            clear hc
            obtain ⟨a5, c5, rfl⟩ := hrow5.isSl
            refine ⟨_, rfl, ?_⟩
            refine hK.out _ _ ⟨(hS.get 0 rfl).cell 0 Hm.out.g0, (hS.get 0 rfl).cell 1 Hm.out.g1⟩ (fun hHeld => ?_)
            clear hK K
            simp only [Act.put, List.setIfInBounds_toArray, List.set_cons_succ, List.set_cons_zero]
            refine wpAnyH_ready (rs := [9]) (by kernel_rfl) (by simp) ?_
            refine hcons rfl rfl (fun K hK => ?_) ?_
            · clear hHeld
              have hcall := ofour_ok x5 (.slice a5 1 c5) [UInt8.ofNat m.kind.toNat] (.slice (some ⟨gc, 0, none⟩) 1 1) [m.channel] _ (hS.get 3 rfl) hrow5 ((RowV.lit 24 1 gc 1 [.int .u32 m.channel] rfl (by decide)).read (hS.get 2 rfl)) (hS.apart 3 2 rfl rfl (by decide)) H4.out (by simp) (by simp)
              refine owp_call rfl (by kernel_rfl) (args := #[.slice a5 1 c5, .slice (some ⟨gc, 0, none⟩) 1 1]) rfl hcall ?_
              clear hcall
              rintro e w6 ⟨v6, x6, rfl, hrow6, hc⟩
              rw [fours_one, show ([UInt8.ofNat m.kind.toNat] ++ enc 4 m.channel).length = 5 by rw [List.length_append, enc_length]; rfl] at hrow6
              replace hS := hS.call1 (N := []) 3 rfl hc
              try simp only [List.cons_append, List.nil_append, List.append_nil, List.set_cons_zero, List.set_cons_succ] at hS
              clear hc
              obtain ⟨a6, c6, rfl⟩ := hrow6.isSl
              refine ⟨_, rfl, ?_⟩
              refine hK.out _ _ ⟨(hS.get 0 rfl).cell 0 Hm.out.g0, (hS.get 0 rfl).cell 1 Hm.out.g1⟩ (fun hHeld => ?_)
              clear hK K
              simp only [Act.put, List.setIfInBounds_toArray, List.set_cons_succ, List.set_cons_zero]
              refine htake (i := 10) (v := (.slice a6 5 c6)) rfl (by kernel_rfl) (by kernel_rfl) (by kernel_rfl) (fun _ _ _ h => h) (Or.inl ⟨by rfl, by (intro w hSw; (try dsimp only at hSw); (try obtain ⟨h1, h2⟩ := hSw); go_simp; try with_reducible rfl)⟩) (by assumption) ?_; simp only [Act.put, List.setIfInBounds_toArray, List.set_cons_succ, List.set_cons_zero]
              refine wpAnyH_done (by kernel_rfl) ?_ _
              clear hHeld
              replace hS := hS.pick [0, 3, 1, 2] rfl (by decide)
              go_wp2_with fail
              go_meet
              exact ⟨x6, hrow6, hS.pick [0, 1] rfl (by decide)⟩
            exact AllReadyH.nil
          exact AllReadyH.nil
        exact AllReadyH.nil
      exact AllReadyH.nil
    refine hcons rfl rfl (fun K hK => ?_) ?_
    · clear hHeld
      refine owp_bslice1 (vs := [.int .u32 _]) hS rfl rfl (by rfl) (by decide) ?_
      clear hS; intro gc _ hS; try simp only [List.cons_append, List.nil_append, List.append_nil, List.set_cons_zero, List.set_cons_succ] at hS
      refine hK.out _ _ ⟨(hS.get 0 rfl).cell 0 Hm.out.g0, (hS.get 0 rfl).cell 1 Hm.out.g1⟩ (fun hHeld => ?_)
      clear hK K
      simp only [Act.put, List.setIfInBounds_toArray, List.set_cons_succ, List.set_cons_zero]
      refine wpAnyH_ready (rs := [0, 4]) (by kernel_rfl) (by simp) ?_
      refine hcons rfl rfl (fun K hK => ?_) ?_
      · clear hHeld
        refine owp_bslice0 hS rfl ?_
        clear hS; intro go _ hS; try simp only [List.cons_append, List.nil_append, List.append_nil, List.set_cons_zero, List.set_cons_succ] at hS
        refine hK.out _ _ ⟨(hS.get 0 rfl).cell 0 Hm.out.g0, (hS.get 0 rfl).cell 1 Hm.out.g1⟩ (fun hHeld => ?_)
        clear hK K
        simp only [Act.put, List.setIfInBounds_toArray, List.set_cons_succ, List.set_cons_zero]
        refine wpAnyH_ready (rs := [4]) (by kernel_rfl) (by simp) ?_
        refine hcons rfl rfl (fun K hK => ?_) ?_
        · clear hHeld
          refine owp_bslice1 (vs := [.int .u8 _]) hS rfl rfl (by rfl) (by decide) ?_
          clear hS; intro gk _ hS; try simp only [List.cons_append, List.nil_append, List.append_nil, List.set_cons_zero, List.set_cons_succ] at hS
          refine hK.out _ _ ⟨(hS.get 0 rfl).cell 0 Hm.out.g0, (hS.get 0 rfl).cell 1 Hm.out.g1⟩ (fun hHeld => ?_)
          clear hK K
          simp only [Act.put, List.setIfInBounds_toArray, List.set_cons_succ, List.set_cons_zero]
          refine wpAnyH_ready (rs := [5]) (by kernel_rfl) (by simp) ?_
          refine hcons rfl rfl (fun K hK => ?_) ?_
          · clear hHeld
            rw [← Hb.out] at hS
            have hcall := oone_ok _ (.slice (some ⟨go, 0, none⟩) 0 0) [] (.slice (some ⟨gk, 0, none⟩) 1 1) [UInt8.ofNat m.kind.toNat] _ (hS.get 2 rfl) (RowV.lit 5 1 _ 0 [] rfl (Nat.zero_le _)) ((RowV.lit 5 1 gk 1 _ rfl (by decide)).read (hS.get 3 rfl)) (by simp)
            refine owp_call rfl (by kernel_rfl) (args := #[.slice (some ⟨go, 0, none⟩) 0 0, .slice (some ⟨gk, 0, none⟩) 1 1]) rfl hcall ?_
            clear hcall
            rintro e w5 ⟨v5, x5, rfl, hrow5, hc⟩
            rw [List.nil_append, show ([UInt8.ofNat m.kind.toNat] : List UInt8).length = 1 from rfl] at hrow5
            replace hS := hS.call1 (N := []) 2 rfl hc
            try simp only [List.cons_append, List.nil_append, List.append_nil, List.set_cons_zero, List.set_cons_succ] at hS
            clear hc
            obtain ⟨a5, c5, rfl⟩ := hrow5.isSl
            refine ⟨_, rfl, ?_⟩
            refine hK.out _ _ ⟨(hS.get 0 rfl).cell 0 Hm.out.g0, (hS.get 0 rfl).cell 1 Hm.out.g1⟩ (fun hHeld => ?_)
            clear hK K
            simp only [Act.put, List.setIfInBounds_toArray, List.set_cons_succ, List.set_cons_zero]
            refine wpAnyH_ready (rs := [9]) (by kernel_rfl) (by simp) ?_
            refine hcons rfl rfl (fun K hK => ?_) ?_
            · clear hHeld
              have hcall := ofour_ok x5 (.slice a5 1 c5) [UInt8.ofNat m.kind.toNat] (.slice (some ⟨gc, 0, none⟩) 1 1) [m.channel] _ (hS.get 2 rfl) hrow5 ((RowV.lit 24 1 gc 1 [.int .u32 m.channel] rfl (by decide)).read (hS.get 1 rfl)) (hS.apart 2 1 rfl rfl (by decide)) H4.out (by simp) (by simp)
              refine owp_call rfl (by kernel_rfl) (args := #[.slice a5 1 c5, .slice (some ⟨gc, 0, none⟩) 1 1]) rfl hcall ?_
              clear hcall
              rintro e w6 ⟨v6, x6, rfl, hrow6, hc⟩
              rw [fours_one, show ([UInt8.ofNat m.kind.toNat] ++ enc 4 m.channel).length = 5 by rw [List.length_append, enc_length]; rfl] at hrow6
              replace hS := hS.call1 (N := []) 2 rfl hc
              try simp only [List.cons_append, List.nil_append, List.append_nil, List.set_cons_zero, List.set_cons_succ] at hS
              clear hc
              obtain ⟨a6, c6, rfl⟩ := hrow6.isSl
              refine ⟨_, rfl, ?_⟩
              refine hK.out _ _ ⟨(hS.get 0 rfl).cell 0 Hm.out.g0, (hS.get 0 rfl).cell 1 Hm.out.g1⟩ (fun hHeld => ?_)
              clear hK K
              simp only [Act.put, List.setIfInBounds_toArray, List.set_cons_succ, List.set_cons_zero]
              refine htake (i := 10) (v := (.slice a6 5 c6)) rfl (by kernel_rfl) (by kernel_rfl) (by kernel_rfl) (fun _ _ _ h => h) (Or.inl ⟨by rfl, by (intro w hSw; (try dsimp only at hSw); (try obtain ⟨h1, h2⟩ := hSw); go_simp; try with_reducible rfl)⟩) (by assumption) ?_; simp only [Act.put, List.setIfInBounds_toArray, List.set_cons_succ, List.set_cons_zero]
              refine wpAnyH_done (by kernel_rfl) ?_ _
              clear hHeld
              replace hS := hS.pick [0, 2, 3, 1] rfl (by decide)
              go_wp2_with fail
              go_meet
              exact ⟨x6, hrow6, hS.pick [0, 1] rfl (by decide)⟩
            exact AllReadyH.nil
          exact AllReadyH.nil
        exact AllReadyH.nil
      refine hcons rfl rfl (fun K hK => ?_) ?_
      · clear hHeld
        refine owp_bslice1 (vs := [.int .u8 _]) hS rfl rfl (by rfl) (by decide) ?_
        clear hS; intro gk _ hS; try simp only [List.cons_append, List.nil_append, List.append_nil, List.set_cons_zero, List.set_cons_succ] at hS
        refine hK.out _ _ ⟨(hS.get 0 rfl).cell 0 Hm.out.g0, (hS.get 0 rfl).cell 1 Hm.out.g1⟩ (fun hHeld => ?_)
        clear hK K
        simp only [Act.put, List.setIfInBounds_toArray, List.set_cons_succ, List.set_cons_zero]
        refine wpAnyH_ready (rs := [0]) (by kernel_rfl) (by simp) ?_
        refine hcons rfl rfl (fun K hK => ?_) ?_
        · clear hHeld
          refine owp_bslice0 hS rfl ?_
          clear hS; intro go _ hS; try simp only [List.cons_append, List.nil_append, List.append_nil, List.set_cons_zero, List.set_cons_succ] at hS
          refine hK.out _ _ ⟨(hS.get 0 rfl).cell 0 Hm.out.g0, (hS.get 0 rfl).cell 1 Hm.out.g1⟩ (fun hHeld => ?_)
          clear hK K
          simp only [Act.put, List.setIfInBounds_toArray, List.set_cons_succ, List.set_cons_zero]
          refine wpAnyH_ready (rs := [5]) (by kernel_rfl) (by simp) ?_
          refine hcons rfl rfl (fun K hK => ?_) ?_
          · clear hHeld
            rw [← Hb.out] at hS
            have hcall := oone_ok _ (.slice (some ⟨go, 0, none⟩) 0 0) [] (.slice (some ⟨gk, 0, none⟩) 1 1) [UInt8.ofNat m.kind.toNat] _ (hS.get 3 rfl) (RowV.lit 5 1 _ 0 [] rfl (Nat.zero_le _)) ((RowV.lit 5 1 gk 1 _ rfl (by decide)).read (hS.get 2 rfl)) (by simp)
            refine owp_call rfl (by kernel_rfl) (args := #[.slice (some ⟨go, 0, none⟩) 0 0, .slice (some ⟨gk, 0, none⟩) 1 1]) rfl hcall ?_
            clear hcall
            rintro e w5 ⟨v5, x5, rfl, hrow5, hc⟩
            rw [List.nil_append, show ([UInt8.ofNat m.kind.toNat] : List UInt8).length = 1 from rfl] at hrow5
            replace hS := hS.call1 (N := []) 3 rfl hc
            try simp only [List.cons_append, List.nil_append, List.append_nil, List.set_cons_zero, List.set_cons_succ] at hS
            clear hc
            obtain ⟨a5, c5, rfl⟩ := hrow5.isSl
            refine ⟨_, rfl, ?_⟩
            refine hK.out _ _ ⟨(hS.get 0 rfl).cell 0 Hm.out.g0, (hS.get 0 rfl).cell 1 Hm.out.g1⟩ (fun hHeld => ?_)
            clear hK K
            simp only [Act.put, List.setIfInBounds_toArray, List.set_cons_succ, List.set_cons_zero]
            refine wpAnyH_ready (rs := [9]) (by kernel_rfl) (by simp) ?_
            refine hcons rfl rfl (fun K hK => ?_) ?_
            · clear hHeld
              have hcall := ofour_ok x5 (.slice a5 1 c5) [UInt8.ofNat m.kind.toNat] (.slice (some ⟨gc, 0, none⟩) 1 1) [m.channel] _ (hS.get 3 rfl) hrow5 ((RowV.lit 24 1 gc 1 [.int .u32 m.channel] rfl (by decide)).read (hS.get 1 rfl)) (hS.apart 3 1 rfl rfl (by decide)) H4.out (by simp) (by simp)
              refine owp_call rfl (by kernel_rfl) (args := #[.slice a5 1 c5, .slice (some ⟨gc, 0, none⟩) 1 1]) rfl hcall ?_
              clear hcall
              rintro e w6 ⟨v6, x6, rfl, hrow6, hc⟩
              rw [fours_one, show ([UInt8.ofNat m.kind.toNat] ++ enc 4 m.channel).length = 5 by rw [List.length_append, enc_length]; rfl] at hrow6
              replace hS := hS.call1 (N := []) 3 rfl hc
              try simp only [List.cons_append, List.nil_append, List.append_nil, List.set_cons_zero, List.set_cons_succ] at hS
              clear hc
              obtain ⟨a6, c6, rfl⟩ := hrow6.isSl
              refine ⟨_, rfl, ?_⟩
              refine hK.out _ _ ⟨(hS.get 0 rfl).cell 0 Hm.out.g0, (hS.get 0 rfl).cell 1 Hm.out.g1⟩ (fun hHeld => ?_)
              clear hK K
              simp only [Act.put, List.setIfInBounds_toArray, List.set_cons_succ, List.set_cons_zero]
              refine htake (i := 10) (v := (.slice a6 5 c6)) rfl (by kernel_rfl) (by kernel_rfl) (by kernel_rfl) (fun _ _ _ h => h) (Or.inl ⟨by rfl, by (intro w hSw; (try dsimp only at hSw); (try obtain ⟨h1, h2⟩ := hSw); go_simp; try with_reducible rfl)⟩) (by assumption) ?_; simp only [Act.put, List.setIfInBounds_toArray, List.set_cons_succ, List.set_cons_zero]
              refine wpAnyH_done (by kernel_rfl) ?_ _
              clear hHeld
              replace hS := hS.pick [0, 3, 2, 1] rfl (by decide)
              go_wp2_with fail
              go_meet
              exact ⟨x6, hrow6, hS.pick [0, 1] rfl (by decide)⟩
            exact AllReadyH.nil
          exact AllReadyH.nil
        exact AllReadyH.nil
      exact AllReadyH.nil
    exact AllReadyH.nil
  clear hS
  obtain ⟨x6, hrow6, hS⟩ := hcut
  obtain ⟨a6, c6, rfl⟩ := hrow6.isSl
  have Hrow6 := Lib.hid hrow6
  by_cases hk1 : m.kind = 1
  · obtain ⟨h11, h12, h13, h14⟩ := right1 Hr.out hk1
    have Hop := Lib.hid (hok.oop Hr.out hk1)
    have hopl := layOp_length m.op hok.full.fit.hash
    have L2 := Lib.hid (show (layHead m ++ enc 8 m.round ++ layOp m.op).length = 87 by rw [List.length_append, L1.out, hopl])
    have htl : (layTrail m.trail).length ≤ 1000 := by simp only [layTrail, List.length_cons, layHops_length]; omega
    have Htl := Lib.hid (show (layHead m ++ enc 8 m.round ++ layOp m.op ++ layTrail m.trail).length ≤ 50000000 by rw [List.length_append, L2.out]; omega)
    have Hfin := Lib.hid (show memoBytes m = layHead m ++ enc 8 m.round ++ layOp m.op ++ layTrail m.trail ++ laySig m.sig by rw [memoBytes, if_pos hk1])
    have e1 : (m.kind == 1) = true := by rw [hk1]; rfl
    have Hk1 := Lib.hid hk1
    have Ht := Lib.hid ht
    have Hv := Lib.hid hv
    have Hhops := Lib.hid hok.hops
    have Hsf := Lib.hid hok.full.sig
    have Hkey := Lib.hid hok.key
    clear hrow6 ht hv hopl htl h11 h14 hok
    go_upto_region 6 with (first | ((with_reducible show wpList _ _ _ (Oper.mk _ (Op.load _ _) _ _ _ _ :: _) _ _); refine wpl rfl ?_; refine owp_load1 hS 0 rfl rfl rfl (Hm.out.g0) ?_))
    try simp only [Act.put, List.setIfInBounds_toArray, List.set_cons_succ, List.set_cons_zero]
    replace hS := hS.drew
    refine wp_region_held_drew (S := (fun w' => (w'.cell? ⟨gm, 2, none⟩ = some (.int .u64 m.round) ∧ w'.cell? ⟨gm, 42, none⟩ = some (.slice a0 m.trail.length c0)) ∧ CellsAt w' ⟨gm, 3, none⟩ m.op.cells ∧ CellsAt w' ⟨gm, 43, none⟩ (m.sig.cells (.slice a1 m.sig.way.length c1)))) (by kernel_rfl) ⟨⟨(hS.get 0 rfl).cell 2 Hm.out.g2, (hS.get 0 rfl).cell 42 Hm.out.g42⟩, (hS.get 0 rfl).range 3 39 Hm.out.gop, (hS.get 0 rfl).range 43 1026 Hgs.out⟩ (fun hHeld => ?_)
    refine htake (i := 0) (v := (.pointer (some ⟨gm, 43, none⟩))) rfl (by kernel_rfl) (by kernel_rfl) (by kernel_rfl) (fun _ _ _ h => h) (Or.inl ⟨by rfl, by (intro w hSw; (try dsimp only at hSw); (try obtain ⟨⟨h1, h2⟩, _, _⟩ := hSw); go_simp; try with_reducible rfl)⟩) (by assumption) ?_; simp only [Act.put, List.setIfInBounds_toArray, List.set_cons_succ, List.set_cons_zero]
    refine htake (i := 1) (v := (.agg (m.sig.cells (.slice a1 m.sig.way.length c1)).toArray)) rfl (by kernel_rfl) (by kernel_rfl) (by kernel_rfl) (fun _ _ _ h => h) (Or.inl ⟨by rfl, yl_loadR rfl rfl Hsl.out (fun _ h => h.2.2)⟩) (by assumption) ?_; simp only [Act.put, List.setIfInBounds_toArray, List.set_cons_succ, List.set_cons_zero]
    refine htake (i := 2) (v := (.slice a6 5 c6)) rfl (by kernel_rfl) (by kernel_rfl) (by kernel_rfl) (fun _ _ _ h => h) (Or.inl ⟨by rfl, by (intro w hSw; (try dsimp only at hSw); (try obtain ⟨⟨h1, h2⟩, _, _⟩ := hSw); go_simp; try with_reducible rfl)⟩) (by assumption) ?_; simp only [Act.put, List.setIfInBounds_toArray, List.set_cons_succ, List.set_cons_zero]
    refine htake (i := 3) (v := (.pointer (some ⟨gm, 2, none⟩))) rfl (by kernel_rfl) (by kernel_rfl) (by kernel_rfl) (fun _ _ _ h => h) (Or.inl ⟨by rfl, by (intro w hSw; (try dsimp only at hSw); (try obtain ⟨⟨h1, h2⟩, _, _⟩ := hSw); go_simp; try with_reducible rfl)⟩) (by assumption) ?_; simp only [Act.put, List.setIfInBounds_toArray, List.set_cons_succ, List.set_cons_zero]
    refine htake (i := 4) (v := (.int .u64 m.round)) rfl (by kernel_rfl) (by kernel_rfl) (by kernel_rfl) (fun _ _ _ h => h) (Or.inl ⟨by rfl, by (intro w hSw; (try dsimp only at hSw); (try obtain ⟨⟨h1, h2⟩, _, _⟩ := hSw); go_simp; try with_reducible rfl)⟩) (by assumption) ?_; simp only [Act.put, List.setIfInBounds_toArray, List.set_cons_succ, List.set_cons_zero]
    refine htake (i := 7) (v := (.pointer (some ⟨gm, 3, none⟩))) rfl (by kernel_rfl) (by kernel_rfl) (by kernel_rfl) (fun _ _ _ h => h) (Or.inl ⟨by rfl, by (intro w hSw; (try dsimp only at hSw); (try obtain ⟨⟨h1, h2⟩, _, _⟩ := hSw); go_simp; try with_reducible rfl)⟩) (by assumption) ?_; simp only [Act.put, List.setIfInBounds_toArray, List.set_cons_succ, List.set_cons_zero]
    refine htake (i := 8) (v := (.agg m.op.cells.toArray)) rfl (by kernel_rfl) (by kernel_rfl) (by kernel_rfl) (fun _ _ _ h => h) (Or.inl ⟨by rfl, yl_loadR rfl rfl Hol.out (fun _ h => h.2.1)⟩) (by assumption) ?_; simp only [Act.put, List.setIfInBounds_toArray, List.set_cons_succ, List.set_cons_zero]
    refine htake (i := 10) (v := (.pointer (some ⟨gm, 42, none⟩))) rfl (by kernel_rfl) (by kernel_rfl) (by kernel_rfl) (fun _ _ _ h => h) (Or.inl ⟨by rfl, by (intro w hSw; (try dsimp only at hSw); (try obtain ⟨⟨h1, h2⟩, _, _⟩ := hSw); go_simp; try with_reducible rfl)⟩) (by assumption) ?_; simp only [Act.put, List.setIfInBounds_toArray, List.set_cons_succ, List.set_cons_zero]
    refine htake (i := 11) (v := (.slice a0 m.trail.length c0)) rfl (by kernel_rfl) (by kernel_rfl) (by kernel_rfl) (fun _ _ _ h => h) (Or.inl ⟨by rfl, by (intro w hSw; (try dsimp only at hSw); (try obtain ⟨⟨h1, h2⟩, _, _⟩ := hSw); go_simp; try with_reducible rfl)⟩) (by assumption) ?_; simp only [Act.put, List.setIfInBounds_toArray, List.set_cons_succ, List.set_cons_zero]
    refine wpAnyH_ready (rs := [5]) (by kernel_rfl) (by simp) ?_
    refine hcons rfl rfl (fun K hK => ?_) ?_
    · clear hHeld
      refine owp_bslice1 (vs := [.int .u64 m.round]) hS rfl rfl (by rfl) (by decide) ?_
      clear hS; intro gr _ hS; try simp only [List.cons_append, List.nil_append, List.append_nil, List.set_cons_zero, List.set_cons_succ] at hS
      refine hK.out _ _ ⟨⟨(hS.get 0 rfl).cell 2 Hm.out.g2, (hS.get 0 rfl).cell 42 Hm.out.g42⟩, (hS.get 0 rfl).range 3 39 Hm.out.gop, (hS.get 0 rfl).range 43 1026 Hgs.out⟩ (fun hHeld => ?_)
      clear hK K
      simp only [Act.put, List.setIfInBounds_toArray, List.set_cons_succ, List.set_cons_zero]
      refine wpAnyH_ready (rs := [6]) (by kernel_rfl) (by simp) ?_
      refine hcons rfl rfl (fun K hK => ?_) ?_
      · clear hHeld
        have hcall := oeight_ok x6 (.slice a6 5 c6) (layHead m) (.slice (some ⟨gr, 0, none⟩) 1 1) [m.round] _ (hS.get 1 rfl) (by rw [Hhl.out]; exact Hrow6.out) ((RowV.lit 25 1 gr 1 [.int .u64 m.round] rfl (by decide)).read (hS.get 2 rfl)) (hS.apart 1 2 rfl rfl (by decide)) Hn8.out (by rw [Hhl.out]; omega) (by simp)
        refine owp_call rfl (by kernel_rfl) (args := #[.slice a6 5 c6, .slice (some ⟨gr, 0, none⟩) 1 1]) rfl hcall ?_
        clear hcall
        rintro e w7 ⟨v7, x7, rfl, hrow7, hc⟩
        rw [eights_one, L1.out] at hrow7
        replace hS := hS.call1 (N := []) 1 rfl hc
        try simp only [List.cons_append, List.nil_append, List.append_nil, List.set_cons_zero, List.set_cons_succ] at hS
        clear hc
        obtain ⟨a7, c7, rfl⟩ := hrow7.isSl
        refine ⟨_, rfl, ?_⟩
        refine hK.out _ _ ⟨⟨(hS.get 0 rfl).cell 2 Hm.out.g2, (hS.get 0 rfl).cell 42 Hm.out.g42⟩, (hS.get 0 rfl).range 3 39 Hm.out.gop, (hS.get 0 rfl).range 43 1026 Hgs.out⟩ (fun hHeld => ?_)
        clear hK K
        simp only [Act.put, List.setIfInBounds_toArray, List.set_cons_succ, List.set_cons_zero]
        refine wpAnyH_ready (rs := [9]) (by kernel_rfl) (by simp) ?_
        refine hcons rfl rfl (fun K hK => ?_) ?_
        · clear hHeld
          have hcall := layOp_ok m.op Hop.out x7 (.slice a7 13 c7) (layHead m ++ enc 8 m.round) _ (hS.get 1 rfl) (by rw [L1.out]; exact hrow7) (by rw [L1.out]; omega)
          refine owp_call rfl (by kernel_rfl) (args := #[.slice a7 13 c7, .agg m.op.cells.toArray]) rfl hcall ?_
          clear hcall
          rintro e w8 ⟨v8, x8, rfl, hrow8, hc⟩
          rw [L2.out] at hrow8
          replace hS := hS.call1 (N := []) 1 rfl hc
          try simp only [List.cons_append, List.nil_append, List.append_nil, List.set_cons_zero, List.set_cons_succ] at hS
          clear hc
          obtain ⟨a8, c8, rfl⟩ := hrow8.isSl
          refine ⟨_, rfl, ?_⟩
          refine hK.out _ _ ⟨⟨(hS.get 0 rfl).cell 2 Hm.out.g2, (hS.get 0 rfl).cell 42 Hm.out.g42⟩, (hS.get 0 rfl).range 3 39 Hm.out.gop, (hS.get 0 rfl).range 43 1026 Hgs.out⟩ (fun hHeld => ?_)
          clear hK K
          simp only [Act.put, List.setIfInBounds_toArray, List.set_cons_succ, List.set_cons_zero]
          refine wpAnyH_ready (rs := [12]) (by kernel_rfl) (by simp) ?_
          refine hcons rfl rfl (fun K hK => ?_) ?_
          · clear hHeld
            have hcall := olayTrail_ok x8 (.slice a8 87 c8) (layHead m ++ enc 8 m.round ++ layOp m.op) (.slice a0 m.trail.length c0) m.trail _ (hS.get 1 rfl) (by rw [L2.out]; exact hrow8) (Ht.out.st0 hS) (hft.st hS 1 rfl).not Hhops.out (by rw [L2.out]; omega) (by omega)
            refine owp_call rfl (by kernel_rfl) (args := #[.slice a8 87 c8, .slice a0 m.trail.length c0]) rfl hcall ?_
            clear hcall
            rintro e w9 ⟨v9, x9, rfl, hrow9, hc⟩
            replace hS := hS.call1 (N := []) 1 rfl hc
            try simp only [List.cons_append, List.nil_append, List.append_nil, List.set_cons_zero, List.set_cons_succ] at hS
            clear hc
            obtain ⟨a9, c9, rfl⟩ := hrow9.isSl
            refine ⟨_, rfl, ?_⟩
            refine hK.out _ _ ⟨⟨(hS.get 0 rfl).cell 2 Hm.out.g2, (hS.get 0 rfl).cell 42 Hm.out.g42⟩, (hS.get 0 rfl).range 3 39 Hm.out.gop, (hS.get 0 rfl).range 43 1026 Hgs.out⟩ (fun hHeld => ?_)
            clear hK K
            simp only [Act.put, List.setIfInBounds_toArray, List.set_cons_succ, List.set_cons_zero]
            refine wpAnyH_ready (rs := [13]) (by kernel_rfl) (by simp) ?_
            refine hcons rfl rfl (fun K hK => ?_) ?_
            · clear hHeld
              have hcall := laySig_ok m.sig Hsf.out (.slice a1 m.sig.way.length c1) x9 (.slice a9 _ c9) (layHead m ++ enc 8 m.round ++ layOp m.op ++ layTrail m.trail) _ (hS.get 1 rfl) hrow9 (Hv.out.st0 hS) (hfv.st hS 1 rfl) Hkey.out (by omega) Htl.out
              refine owp_call rfl (by kernel_rfl) (args := #[.agg (m.sig.cells (.slice a1 m.sig.way.length c1)).toArray, .slice a9 _ c9]) rfl hcall ?_
              clear hcall
              rintro e w10 ⟨v10, x10, rfl, hrow10, hc⟩
              rw [← Hfin.out] at hrow10
              replace hS := hS.call1 (N := []) 1 rfl hc
              try simp only [List.cons_append, List.nil_append, List.append_nil, List.set_cons_zero, List.set_cons_succ] at hS
              clear hc
              obtain ⟨a10, c10, rfl⟩ := hrow10.isSl
              refine ⟨_, rfl, ?_⟩
              refine hK.out _ _ ⟨⟨(hS.get 0 rfl).cell 2 Hm.out.g2, (hS.get 0 rfl).cell 42 Hm.out.g42⟩, (hS.get 0 rfl).range 3 39 Hm.out.gop, (hS.get 0 rfl).range 43 1026 Hgs.out⟩ (fun hHeld => ?_)
              clear hK K
              simp only [Act.put, List.setIfInBounds_toArray, List.set_cons_succ, List.set_cons_zero]
              refine htake (i := 14) (v := (.slice a10 (memoBytes m).length c10)) rfl (by kernel_rfl) (by kernel_rfl) (by kernel_rfl) (fun _ _ _ h => h) (Or.inl ⟨by rfl, by (intro w hSw; (try dsimp only at hSw); (try obtain ⟨⟨h1, h2⟩, _, _⟩ := hSw); go_simp; try with_reducible rfl)⟩) (by assumption) ?_; simp only [Act.put, List.setIfInBounds_toArray, List.set_cons_succ, List.set_cons_zero]
              refine wpAnyH_done (by kernel_rfl) ?_ _
              clear hHeld
              go_wp2_with fail
              go_ret2
              exact ⟨_, x10, rfl, hrow10, hS.pick [1] rfl (by decide)⟩
            exact AllReadyH.nil
          exact AllReadyH.nil
        exact AllReadyH.nil
      exact AllReadyH.nil
    exact AllReadyH.nil
  · by_cases hk2 : m.kind = 2
    · have h13 := (right2 Hr.out hk2).2
      have Hfin := Lib.hid (show memoBytes m = layHead m ++ enc 8 m.round ++ laySig m.sig by rw [memoBytes, if_neg hk1, if_pos hk2])
      have Hk1 := Lib.hid hk1
      have Hk2 := Lib.hid hk2
      have Hv := Lib.hid hv
      have Hsf := Lib.hid hok.full.sig
      have Hkey := Lib.hid hok.key
      clear hrow6 ht hv hok
      go_upto_region 8 with (first | ((with_reducible show wpList _ _ _ (Oper.mk _ (Op.load _ _) _ _ _ _ :: _) _ _); refine wpl rfl ?_; refine owp_load1 hS 0 rfl rfl rfl (Hm.out.g0) ?_))
      try simp only [Act.put, List.setIfInBounds_toArray, List.set_cons_succ, List.set_cons_zero]
      replace hS := hS.drew
      refine wp_region_held_drew (S := (fun w' => (w'.cell? ⟨gm, 2, none⟩ = some (.int .u64 m.round)) ∧ CellsAt w' ⟨gm, 43, none⟩ (m.sig.cells (.slice a1 m.sig.way.length c1)))) (by kernel_rfl) ⟨(hS.get 0 rfl).cell 2 Hm.out.g2, (hS.get 0 rfl).range 43 1026 Hgs.out⟩ (fun hHeld => ?_)
      refine htake (i := 0) (v := (.pointer (some ⟨gm, 43, none⟩))) rfl (by kernel_rfl) (by kernel_rfl) (by kernel_rfl) (fun _ _ _ h => h) (Or.inl ⟨by rfl, by (intro w hSw; (try dsimp only at hSw); (try obtain ⟨h1, _⟩ := hSw); go_simp; try with_reducible rfl)⟩) (by assumption) ?_; simp only [Act.put, List.setIfInBounds_toArray, List.set_cons_succ, List.set_cons_zero]
      refine htake (i := 1) (v := (.agg (m.sig.cells (.slice a1 m.sig.way.length c1)).toArray)) rfl (by kernel_rfl) (by kernel_rfl) (by kernel_rfl) (fun _ _ _ h => h) (Or.inl ⟨by rfl, yl_loadR rfl rfl Hsl.out (fun _ h => h.2)⟩) (by assumption) ?_; simp only [Act.put, List.setIfInBounds_toArray, List.set_cons_succ, List.set_cons_zero]
      refine htake (i := 2) (v := (.slice a6 5 c6)) rfl (by kernel_rfl) (by kernel_rfl) (by kernel_rfl) (fun _ _ _ h => h) (Or.inl ⟨by rfl, by (intro w hSw; (try dsimp only at hSw); (try obtain ⟨h1, _⟩ := hSw); go_simp; try with_reducible rfl)⟩) (by assumption) ?_; simp only [Act.put, List.setIfInBounds_toArray, List.set_cons_succ, List.set_cons_zero]
      refine htake (i := 3) (v := (.pointer (some ⟨gm, 2, none⟩))) rfl (by kernel_rfl) (by kernel_rfl) (by kernel_rfl) (fun _ _ _ h => h) (Or.inl ⟨by rfl, by (intro w hSw; (try dsimp only at hSw); (try obtain ⟨h1, _⟩ := hSw); go_simp; try with_reducible rfl)⟩) (by assumption) ?_; simp only [Act.put, List.setIfInBounds_toArray, List.set_cons_succ, List.set_cons_zero]
      refine htake (i := 4) (v := (.int .u64 m.round)) rfl (by kernel_rfl) (by kernel_rfl) (by kernel_rfl) (fun _ _ _ h => h) (Or.inl ⟨by rfl, by (intro w hSw; (try dsimp only at hSw); (try obtain ⟨h1, _⟩ := hSw); go_simp; try with_reducible rfl)⟩) (by assumption) ?_; simp only [Act.put, List.setIfInBounds_toArray, List.set_cons_succ, List.set_cons_zero]
      refine wpAnyH_ready (rs := [5]) (by kernel_rfl) (by simp) ?_
      refine hcons rfl rfl (fun K hK => ?_) ?_
      · clear hHeld
        refine owp_bslice1 (vs := [.int .u64 m.round]) hS rfl rfl (by rfl) (by decide) ?_
        clear hS; intro gr _ hS; try simp only [List.cons_append, List.nil_append, List.append_nil, List.set_cons_zero, List.set_cons_succ] at hS
        refine hK.out _ _ ⟨(hS.get 0 rfl).cell 2 Hm.out.g2, (hS.get 0 rfl).range 43 1026 Hgs.out⟩ (fun hHeld => ?_)
        clear hK K
        simp only [Act.put, List.setIfInBounds_toArray, List.set_cons_succ, List.set_cons_zero]
        refine wpAnyH_ready (rs := [6]) (by kernel_rfl) (by simp) ?_
        refine hcons rfl rfl (fun K hK => ?_) ?_
        · clear hHeld
          have hcall := oeight_ok x6 (.slice a6 5 c6) (layHead m) (.slice (some ⟨gr, 0, none⟩) 1 1) [m.round] _ (hS.get 1 rfl) (by rw [Hhl.out]; exact Hrow6.out) ((RowV.lit 25 1 gr 1 [.int .u64 m.round] rfl (by decide)).read (hS.get 2 rfl)) (hS.apart 1 2 rfl rfl (by decide)) Hn8.out (by rw [Hhl.out]; omega) (by simp)
          refine owp_call rfl (by kernel_rfl) (args := #[.slice a6 5 c6, .slice (some ⟨gr, 0, none⟩) 1 1]) rfl hcall ?_
          clear hcall
          rintro e w7 ⟨v7, x7, rfl, hrow7, hc⟩
          rw [eights_one, L1.out] at hrow7
          replace hS := hS.call1 (N := []) 1 rfl hc
          try simp only [List.cons_append, List.nil_append, List.append_nil, List.set_cons_zero, List.set_cons_succ] at hS
          clear hc
          obtain ⟨a7, c7, rfl⟩ := hrow7.isSl
          refine ⟨_, rfl, ?_⟩
          refine hK.out _ _ ⟨(hS.get 0 rfl).cell 2 Hm.out.g2, (hS.get 0 rfl).range 43 1026 Hgs.out⟩ (fun hHeld => ?_)
          clear hK K
          simp only [Act.put, List.setIfInBounds_toArray, List.set_cons_succ, List.set_cons_zero]
          refine wpAnyH_ready (rs := [7]) (by kernel_rfl) (by simp) ?_
          refine hcons rfl rfl (fun K hK => ?_) ?_
          · clear hHeld
            have hcall := laySig_ok m.sig Hsf.out (.slice a1 m.sig.way.length c1) x7 (.slice a7 13 c7) (layHead m ++ enc 8 m.round) _ (hS.get 1 rfl) (by rw [L1.out]; exact hrow7) (Hv.out.st0 hS) (hfv.st hS 1 rfl) Hkey.out (by omega) (by rw [L1.out]; omega)
            refine owp_call rfl (by kernel_rfl) (args := #[.agg (m.sig.cells (.slice a1 m.sig.way.length c1)).toArray, .slice a7 13 c7]) rfl hcall ?_
            clear hcall
            rintro e w10 ⟨v10, x10, rfl, hrow10, hc⟩
            rw [← Hfin.out] at hrow10
            replace hS := hS.call1 (N := []) 1 rfl hc
            try simp only [List.cons_append, List.nil_append, List.append_nil, List.set_cons_zero, List.set_cons_succ] at hS
            clear hc
            obtain ⟨a10, c10, rfl⟩ := hrow10.isSl
            refine ⟨_, rfl, ?_⟩
            refine hK.out _ _ ⟨(hS.get 0 rfl).cell 2 Hm.out.g2, (hS.get 0 rfl).range 43 1026 Hgs.out⟩ (fun hHeld => ?_)
            clear hK K
            simp only [Act.put, List.setIfInBounds_toArray, List.set_cons_succ, List.set_cons_zero]
            refine htake (i := 8) (v := (.slice a10 (memoBytes m).length c10)) rfl (by kernel_rfl) (by kernel_rfl) (by kernel_rfl) (fun _ _ _ h => h) (Or.inl ⟨by rfl, by (intro w hSw; (try dsimp only at hSw); (try obtain ⟨h1, _⟩ := hSw); go_simp; try with_reducible rfl)⟩) (by assumption) ?_; simp only [Act.put, List.setIfInBounds_toArray, List.set_cons_succ, List.set_cons_zero]
            refine wpAnyH_done (by kernel_rfl) ?_ _
            clear hHeld
            go_wp2_with fail
            go_ret2
            exact ⟨_, x10, rfl, hrow10, hS.pick [1] rfl (by decide)⟩
          exact AllReadyH.nil
        exact AllReadyH.nil
      exact AllReadyH.nil
    · have Hfin := Lib.hid (show memoBytes m = layHead m by rw [memoBytes, if_neg hk1, if_neg hk2])
      have e1 : (m.kind == 1) = false := by simpa using hk1
      have e2 : (m.kind == 2) = false := by simpa using hk2
      clear hrow6
      go_wp2_with (first | ((with_reducible show wpList _ _ _ (Oper.mk _ (Op.load _ _) _ _ _ _ :: _) _ _); refine wpl rfl ?_; refine owp_load1 hS 0 rfl rfl rfl (Hm.out.g0) ?_))
      go_ret2
      refine ⟨_, x6, rfl, ?_, hS.pick [1] rfl (by decide)⟩
      rw [Hfin.out, Hhl.out]
      exact Hrow6.out

theorem bytesBad_ok (m : Memo) (cs : List Value) (a0 c0 a1 c1) (hm : m.At cs (.slice a0 m.trail.length c0) (.slice a1 m.sig.way.length c1)) (w : World) (hr : m.right = false) :
    Calls Try.prog 18 #[.agg cs.toArray] w (fun e w' => e = .returned (.tuple #[.slice none 0 0, .int .i64 1]) ∧ St w [] w' []) := by
  have hS := St.nil w
  have Hm := Lib.hid hm
  go_enter Try.func18, Try.ntmps18
  go_wp2_with (first
    | ((with_reducible show wpList _ _ _ (Oper.mk _ (Op.box _ _) _ _ _ _ :: _) _ _); refine wpl rfl ?_; refine owp_box hS rfl (vs := cs) rfl ?_; clear hS; intro gm _ hS; try simp only [List.cons_append, List.nil_append, List.append_nil, List.set_cons_zero, List.set_cons_succ] at hS)
    | ((with_reducible show wpList _ _ _ (Oper.mk _ (Op.load _ _) _ _ _ _ :: _) _ _); refine wpl rfl ?_; refine (owp_loadW hS 0 rfl rfl rfl (Hm.out.len) ?_)))
  refine (right_ok m cs a0 c0 a1 c1 hm _).mono ?_
  rintro e w2 ⟨rfl, hc⟩
  rw [hr]
  replace hS := hS.call0 hc
  try simp only [List.cons_append, List.nil_append, List.append_nil, List.set_cons_zero, List.set_cons_succ] at hS
  clear hc
  go_wp2_with fail
  go_ret2
  exact ⟨rfl, hS.pick [] rfl (by decide)⟩

end Go.Proofs.Ytjgphbdffhmmgaa
