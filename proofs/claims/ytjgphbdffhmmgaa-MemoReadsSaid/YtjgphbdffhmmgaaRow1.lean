/-
  The law MemoReads answers true, as a call: for any bytes that are only read.
-/
import Derived.Test.YtjgphbdffhmmgaaRow0
namespace Go.Proofs.Ytjgphbdffhmmgaa
set_option linter.unusedSimpArgs false
set_option linter.unusedVariables false
open Go Go.RowKit
set_option maxRecDepth 100000
set_option maxHeartbeats 4000000

def RReadPost2 (m : Memo) (er : Int) (w : World) (e : Ending) (w' : World) : Prop :=
  ∃ tv wv x y, e = .returned (.tuple #[.agg (m.cells tv wv).toArray, .int .i64 er]) ∧ St w [] w' [x, y] ∧
    RowV 97 3 tv m.trail.length (hopCells m.trail) x ∧ RowV 27 32 wv m.sig.way.length (wayCells m.sig.way) y
theorem rreadMemo_ok2 (u : Value) (l : List UInt8) (w : World) (hr : RowR w 1 u l.length (bs l)) (hl : l.length ≤ 1000000) :
    Calls Try.prog 7 #[u] w (RReadPost2 (readMemo l).1 (readMemo l).2 w) := rreadMemo_ok u l w hr hl

theorem memoReads_ok (u : Value) (l : List UInt8) (w : World) (hu : RowR w 1 u l.length (bs l)) :
    Calls Try.prog 3 #[u] w (TruePost w) := by
  have hS := St.nil w
  obtain ⟨a0, c0, rfl⟩ := hu.isSl
  by_cases hbig : 20000 < l.length
  · go_enter Try.func3, Try.ntmps3
    go_wp2_with fail
    refine (awake_ok _).mono ?_
    rintro e w1 ⟨rfl, hc⟩
    replace hS := hS.call0 hc
    go_wp2_with fail
    go_ret
    exact ⟨rfl, hS⟩
  · have hl : l.length ≤ 1000000 := by omega
    have hr := hu
    have Hu := Lib.hid hu
    have hnb : (l.length : Int) ≤ 20000 := by omega
    have Hsm := Lib.hid (readMemo_small l)
    clear hu
    go_enter Try.func3, Try.ntmps3
    go_wp2_with fail
    refine (readMemo_ok _ l _ (Hu.out.st0 hS) hl).mono ?_
    rintro e w1 ⟨tv, wv, x1, y1, rfl, hc, hrx1, hry1⟩
    replace hS := hS.call0 hc
    try simp only [List.cons_append, List.nil_append, List.append_nil, List.set_cons_zero, List.set_cons_succ] at hS
    clear hc
    obtain ⟨a1, c1, rfl⟩ := hrx1.isSl
    obtain ⟨a2, c2, rfl⟩ := hry1.isSl
    have Hrx1 := Lib.hid hrx1
    have Hry1 := Lib.hid hry1
    have Hlen := Lib.hid (fun (t v : Value) => Hsm.out.full.fit.len t v)
    have Hone := Lib.hid (fun (t v : Value) (h1 : t.oneCell' = true) (h2 : v.oneCell' = true) => Memo.one (readMemo l).1 t v h1 h2)
    have HRread := Lib.hid (fun w' h => rreadMemo_ok2 (.slice a0 l.length c0) l w' h hl)
    clear hrx1 hry1
    generalize (readMemo l).1 = m at *
    generalize (readMemo l).2 = er at *
    go_wp2_with (first
      | ((with_reducible show wpList _ _ _ (Oper.mk (some 3) (Op.alloc _) _ _ _ _ :: _) _ _); refine wpl rfl ?_; refine (owp_allocAt hS 3 rfl rfl ?_); clear hS; intro gm _ hS; simp only [List.cons_append, List.nil_append] at hS)
      | ((with_reducible show wpList _ _ _ (Oper.mk _ (Op.store _ _ _) _ _ _ _ :: _) _ _); refine wpl rfl ?_; refine (owp_storeW hS 2 rfl rfl rfl rfl (Hlen.out _ _) (Memo.Fit.zero.len _ _) (Hone.out _ _ rfl rfl) ?_); clear hS; intro _ hS; try simp only [List.cons_append, List.nil_append, List.append_nil, List.set_cons_zero, List.set_cons_succ] at hS))
    refine (HRread.out _ (Hu.out.st0 hS)).mono ?_
    rintro e w2 ⟨tv', wv', x2, y2, rfl, hc, hrx2, hry2⟩
    replace hS := hS.call0 hc
    try simp only [List.cons_append, List.nil_append, List.append_nil, List.set_cons_zero, List.set_cons_succ] at hS
    clear hc
    obtain ⟨a3, c3, rfl⟩ := hrx2.isSl
    obtain ⟨a4, c4, rfl⟩ := hry2.isSl
    have Hrx2 := Lib.hid hrx2
    have Hry2 := Lib.hid hry2
    clear hrx2 hry2
    go_wp2_with (first
      | ((with_reducible show wpList _ _ _ (Oper.mk (some 5) (Op.alloc _) _ _ _ _ :: _) _ _); refine wpl rfl ?_; refine (owp_allocAt hS 5 rfl rfl ?_); clear hS; intro gn _ hS; simp only [List.cons_append, List.nil_append] at hS)
      | ((with_reducible show wpList _ _ _ (Oper.mk _ (Op.store _ _ _) _ _ _ _ :: _) _ _); refine wpl rfl ?_; refine (owp_storeW hS 5 rfl rfl rfl rfl (Hlen.out _ _) (Memo.Fit.zero.len _ _) (Hone.out _ _ rfl rfl) ?_); clear hS; intro _ hS; try simp only [List.cons_append, List.nil_append, List.append_nil, List.set_cons_zero, List.set_cons_succ] at hS))
    refine (of_ok2 _ l _ (Hu.out.st0 hS) hl).mono ?_
    rintro e w3 ⟨b, g, cap, sp, rfl, hc, hcap, hcm⟩
    replace hS := hS.call0 hc
    try simp only [List.cons_append, List.nil_append, List.append_nil, List.set_cons_zero, List.set_cons_succ] at hS
    clear hc
    obtain ⟨s0, hs0⟩ : ∃ s0, s0 = PS.mk l 0 := ⟨_, rfl⟩
    have h00 : s0.bad = 0 := by rw [hs0]
    have h01 : s0.rest = l := by rw [hs0]
    have H01 := Lib.hid h01
    rw [← h00] at hS
    have H00 := Lib.hid h00
    clear hs0 h00 h01
    go_wp2_with (first
      | ((with_reducible show wpList _ _ _ (Oper.mk _ (Op.build _ _) _ _ _ _ :: _) _ _); refine wpl rfl ?_; refine owp_build rfl [(0, .slice _ _ _)] rfl (build_in _ _ _ _) ?_)
      | ((with_reducible show wpList _ _ _ (Oper.mk _ (Op.box _ _) _ _ _ _ :: _) _ _); refine wpl rfl ?_; refine owp_box hS rfl (vs := [_, _, _]) rfl ?_; clear hS; intro br _ hS; try simp only [List.cons_append, List.nil_append, List.append_nil, List.set_cons_zero, List.set_cons_succ] at hS))
    refine (takeTrail_ok b _ s0 _ (hS.get 6 rfl) (by rw [H01.out]; exact back_inv (hS.pick [6, 7] rfl (by decide)) hcap hcm)).mono ?_
    rintro e w4 ⟨tt, v4, x3, rfl, hc, _, hrx3⟩
    replace hS := hS.call1 6 rfl hc
    try simp only [List.cons_append, List.nil_append, List.append_nil, List.set_cons_zero, List.set_cons_succ] at hS
    clear hc
    obtain ⟨a5, c5, rfl⟩ := hrx3.isSl
    have Hrx3 := Lib.hid hrx3
    clear hrx3
    go_wp2_with fail
    have hat : RAt l 0 s0 := ⟨Nat.zero_le _, fun _ => by rw [H01.out]; rfl⟩
    refine (rtakeTrail_ok br _ l 0 s0 _ (by rw [H00.out]; exact hS.get 8 rfl) (URd.own Hu.out hl (hS.pick [8] rfl (by decide))) hat).mono ?_
    rintro e w5 ⟨tt, at5, x4, rfl, hc, _, hrx4⟩
    replace hS := hS.call1 8 rfl hc
    try simp only [List.cons_append, List.nil_append, List.append_nil, List.set_cons_zero, List.set_cons_succ] at hS
    clear hc hat
    obtain ⟨a6, c6, rfl⟩ := hrx4.isSl
    have Hrx4 := Lib.hid hrx4
    have Hok := Lib.hid (takeTrail_hops s0)
    have htl := takeTrail_le s0
    clear hrx4 H01 H00
    generalize (takeTrail s0).1 = tr at *
    generalize (takeTrail s0).2.bad = tb at *
    have htl0 : (tr.length : Int) ≤ 7 := by omega
    have hrr1 := Hrx1.out.isSl
    simp only [Act.put, List.setIfInBounds_toArray, List.set_cons_succ, List.set_cons_zero]
    go_wp2_with fail
    clear hrr1
    replace hS := hS.drew
    refine wp_region_held_drew (S := (fun w' => CellsAt w' ⟨gm, 0, none⟩ (m.cells (.slice a1 m.trail.length c1) (.slice a2 m.sig.way.length c2)) ∧ CellsAt w' ⟨gn, 0, none⟩ (m.cells (.slice a3 m.trail.length c3) (.slice a4 m.sig.way.length c4)) ∧ w'.cell? ⟨br, 2, none⟩ = some (.int .i64 tb))) (by kernel_rfl) ⟨(hS.get 2 rfl).range 0 1069 (by rw [List.drop_zero, List.take_of_length_le (Nat.le_of_eq (Hlen.out _ _))]), (hS.get 5 rfl).range 0 1069 (by rw [List.drop_zero, List.take_of_length_le (Nat.le_of_eq (Hlen.out _ _))]), (hS.get 8 rfl).cell 2 rfl⟩ (fun hHeld => ?_)
    refine wpAnyH_ready (rs := [0]) (by kernel_rfl) (by simp) ?_
    refine hcons rfl rfl (fun K hK => ?_) ?_
    · clear hHeld
      refine owp_call rfl (by kernel_rfl) (args := #[]) rfl (awake_ok _) ?_
      rintro e w6 ⟨rfl, hc⟩
      replace hS := hS.call0 hc
      try simp only [List.cons_append, List.nil_append, List.append_nil, List.set_cons_zero, List.set_cons_succ] at hS
      clear hc
      refine ⟨_, rfl, ?_⟩
      refine hK.out _ _ ⟨(hS.get 2 rfl).range 0 1069 (by rw [List.drop_zero, List.take_of_length_le (Nat.le_of_eq (Hlen.out _ _))]), (hS.get 5 rfl).range 0 1069 (by rw [List.drop_zero, List.take_of_length_le (Nat.le_of_eq (Hlen.out _ _))]), (hS.get 8 rfl).cell 2 rfl⟩ (fun hHeld => ?_)
      clear hK K
      simp only [Act.put, List.setIfInBounds_toArray, List.set_cons_succ, List.set_cons_zero]
      refine htake (i := 1) (v := (.bool true)) rfl (by kernel_rfl) (by kernel_rfl) (by kernel_rfl) (fun _ _ _ h => h) (Or.inl ⟨by rfl, by (intro w hSw; (try dsimp only at hSw); (try obtain ⟨_, _, h3⟩ := hSw); go_simp; try with_reducible rfl)⟩) (by assumption) ?_; simp only [Act.put, List.setIfInBounds_toArray, List.set_cons_succ, List.set_cons_zero]
      refine htake (i := 2) (v := (.int .i64 er)) rfl (by kernel_rfl) (by kernel_rfl) (by kernel_rfl) (fun _ _ _ h => h) (Or.inl ⟨by rfl, by (intro w hSw; (try dsimp only at hSw); (try obtain ⟨_, _, h3⟩ := hSw); go_simp; try with_reducible rfl)⟩) (by assumption) ?_; simp only [Act.put, List.setIfInBounds_toArray, List.set_cons_succ, List.set_cons_zero]
      refine htake (i := 3) (v := (.int .i64 er)) rfl (by kernel_rfl) (by kernel_rfl) (by kernel_rfl) (fun _ _ _ h => h) (Or.inl ⟨by rfl, by (intro w hSw; (try dsimp only at hSw); (try obtain ⟨_, _, h3⟩ := hSw); go_simp; try with_reducible rfl)⟩) (by assumption) ?_; simp only [Act.put, List.setIfInBounds_toArray, List.set_cons_succ, List.set_cons_zero]
      refine htake (i := 4) (v := (.bool true)) rfl (by kernel_rfl) (by kernel_rfl) (by kernel_rfl) (fun _ _ _ h => h) (Or.inl ⟨by rfl, by (intro w hSw; (try dsimp only at hSw); (try obtain ⟨_, _, h3⟩ := hSw); go_simp; try with_reducible rfl)⟩) (by assumption) ?_; simp only [Act.put, List.setIfInBounds_toArray, List.set_cons_succ, List.set_cons_zero]
      refine htake (i := 5) (v := (.bool true)) rfl (by kernel_rfl) (by kernel_rfl) (by kernel_rfl) (fun _ _ _ h => h) (Or.inl ⟨by rfl, by (intro w hSw; (try dsimp only at hSw); (try obtain ⟨_, _, h3⟩ := hSw); go_simp; try with_reducible rfl)⟩) (by assumption) ?_; simp only [Act.put, List.setIfInBounds_toArray, List.set_cons_succ, List.set_cons_zero]
      refine htake (i := 6) (v := (.bool true)) rfl (by kernel_rfl) (by kernel_rfl) (by kernel_rfl) (fun _ _ _ h => h) (Or.inl ⟨by rfl, by (intro w hSw; (try dsimp only at hSw); (try obtain ⟨_, _, h3⟩ := hSw); go_simp; try with_reducible rfl)⟩) (by assumption) ?_; simp only [Act.put, List.setIfInBounds_toArray, List.set_cons_succ, List.set_cons_zero]
      refine htake (i := 7) (v := (.agg (m.cells (.slice a1 m.trail.length c1) (.slice a2 m.sig.way.length c2)).toArray)) rfl (by kernel_rfl) (by kernel_rfl) (by kernel_rfl) (fun _ _ _ h => h) (Or.inl ⟨by rfl, yl_loadR rfl rfl (Hlen.out _ _) (fun _ h => h.1)⟩) (by assumption) ?_; simp only [Act.put, List.setIfInBounds_toArray, List.set_cons_succ, List.set_cons_zero]
      refine htake (i := 9) (v := (.agg (m.cells (.slice a3 m.trail.length c3) (.slice a4 m.sig.way.length c4)).toArray)) rfl (by kernel_rfl) (by kernel_rfl) (by kernel_rfl) (fun _ _ _ h => h) (Or.inl ⟨by rfl, yl_loadR rfl rfl (Hlen.out _ _) (fun _ h => h.2.1)⟩) (by assumption) ?_; simp only [Act.put, List.setIfInBounds_toArray, List.set_cons_succ, List.set_cons_zero]
      refine wpAnyH_ready (rs := [8]) (by kernel_rfl) (by simp) ?_
      refine hcons rfl rfl (fun K hK => ?_) ?_
      · clear hHeld
        have hcall := memoFrom_ok m Hsm.out.full (.slice a1 m.trail.length c1) (.slice a2 m.sig.way.length c2) _ (Hrx1.out.read (hS.get 0 rfl)) (Hry1.out.read (hS.get 1 rfl)) (Nat.le_trans Hsm.out.trail (by decide)) (Nat.le_trans Hsm.out.way (by decide))
        refine owp_call rfl (by kernel_rfl) (args := #[.agg (m.cells (.slice a1 m.trail.length c1) (.slice a2 m.sig.way.length c2)).toArray]) rfl hcall ?_
        clear hcall
        rintro e w7 ⟨tv5, wv5, x5, y5, rfl, hc, hrx5, hry5⟩
        replace hS := hS.call0 hc
        try simp only [List.cons_append, List.nil_append, List.append_nil, List.set_cons_zero, List.set_cons_succ] at hS
        clear hc
        obtain ⟨a7, c7, rfl⟩ := hrx5.isSl
        obtain ⟨a8, c8, rfl⟩ := hry5.isSl
        refine ⟨_, rfl, ?_⟩
        refine hK.out _ _ ⟨(hS.get 2 rfl).range 0 1069 (by rw [List.drop_zero, List.take_of_length_le (Nat.le_of_eq (Hlen.out _ _))]), (hS.get 5 rfl).range 0 1069 (by rw [List.drop_zero, List.take_of_length_le (Nat.le_of_eq (Hlen.out _ _))]), (hS.get 8 rfl).cell 2 rfl⟩ (fun hHeld => ?_)
        clear hK K
        simp only [Act.put, List.setIfInBounds_toArray, List.set_cons_succ, List.set_cons_zero]
        refine wpAnyH_ready (rs := [10]) (by kernel_rfl) (by simp) ?_
        refine hcons rfl rfl (fun K hK => ?_) ?_
        · clear hHeld
          have hcall := memoSame_ok m Hsm.out.full (.slice a7 m.trail.length c7) (.slice a8 m.sig.way.length c8) (.slice a3 m.trail.length c3) (.slice a4 m.sig.way.length c4) _ (hrx5.read (hS.get 11 rfl)) (Hrx2.out.read (hS.get 3 rfl)) (hry5.read (hS.get 12 rfl)) (Hry2.out.read (hS.get 4 rfl)) (Nat.le_trans Hsm.out.trail (by decide)) (Nat.le_trans Hsm.out.way (by decide))
          refine owp_call rfl (by kernel_rfl) (args := #[.agg (m.cells (.slice a7 m.trail.length c7) (.slice a8 m.sig.way.length c8)).toArray, .agg (m.cells (.slice a3 m.trail.length c3) (.slice a4 m.sig.way.length c4)).toArray]) rfl hcall ?_
          clear hcall
          rintro e w8 ⟨rfl, hc⟩
          replace hS := hS.call0 hc
          try simp only [List.cons_append, List.nil_append, List.append_nil, List.set_cons_zero, List.set_cons_succ] at hS
          clear hc hrx5 hry5
          refine ⟨_, rfl, ?_⟩
          refine hK.out _ _ ⟨(hS.get 2 rfl).range 0 1069 (by rw [List.drop_zero, List.take_of_length_le (Nat.le_of_eq (Hlen.out _ _))]), (hS.get 5 rfl).range 0 1069 (by rw [List.drop_zero, List.take_of_length_le (Nat.le_of_eq (Hlen.out _ _))]), (hS.get 8 rfl).cell 2 rfl⟩ (fun hHeld => ?_)
          clear hK K
          simp only [Act.put, List.setIfInBounds_toArray, List.set_cons_succ, List.set_cons_zero]
          refine htake (i := 11) (v := (.bool true)) rfl (by kernel_rfl) (by kernel_rfl) (by kernel_rfl) (fun _ _ _ h => h) (Or.inl ⟨by rfl, by (intro w hSw; (try dsimp only at hSw); (try obtain ⟨_, _, h3⟩ := hSw); go_simp; try with_reducible rfl)⟩) (by assumption) ?_; simp only [Act.put, List.setIfInBounds_toArray, List.set_cons_succ, List.set_cons_zero]
          refine htake (i := 12) (v := (.bool true)) rfl (by kernel_rfl) (by kernel_rfl) (by kernel_rfl) (fun _ _ _ h => h) (Or.inl ⟨by rfl, by (intro w hSw; (try dsimp only at hSw); (try obtain ⟨_, _, h3⟩ := hSw); go_simp; try with_reducible rfl)⟩) (by assumption) ?_; simp only [Act.put, List.setIfInBounds_toArray, List.set_cons_succ, List.set_cons_zero]
          refine htake (i := 13) (v := (.pointer (some ⟨b, 0, none⟩))) rfl (by kernel_rfl) (by kernel_rfl) (by kernel_rfl) (fun _ _ _ h => h) (Or.inl ⟨by rfl, by (intro w hSw; (try dsimp only at hSw); (try obtain ⟨_, _, h3⟩ := hSw); go_simp; try with_reducible rfl)⟩) (by assumption) ?_; simp only [Act.put, List.setIfInBounds_toArray, List.set_cons_succ, List.set_cons_zero]
          refine htake (i := 15) (v := (.pointer (some ⟨br, 0, none⟩))) rfl (by kernel_rfl) (by kernel_rfl) (by kernel_rfl) (fun _ _ _ h => h) (Or.inl ⟨by rfl, by (intro w hSw; (try dsimp only at hSw); (try obtain ⟨_, _, h3⟩ := hSw); go_simp; try with_reducible rfl)⟩) (by assumption) ?_; simp only [Act.put, List.setIfInBounds_toArray, List.set_cons_succ, List.set_cons_zero]
          refine htake (i := 16) (v := (.pointer (some ⟨br, 0, none⟩))) rfl (by kernel_rfl) (by kernel_rfl) (by kernel_rfl) (fun _ _ _ h => h) (Or.inl ⟨by rfl, by (intro w hSw; (try dsimp only at hSw); (try obtain ⟨_, _, h3⟩ := hSw); go_simp; try with_reducible rfl)⟩) (by assumption) ?_; simp only [Act.put, List.setIfInBounds_toArray, List.set_cons_succ, List.set_cons_zero]
          refine htake (i := 17) (v := (.pointer (some ⟨br, 2, none⟩))) rfl (by kernel_rfl) (by kernel_rfl) (by kernel_rfl) (fun _ _ _ h => h) (Or.inl ⟨by rfl, by (intro w hSw; (try dsimp only at hSw); (try obtain ⟨_, _, h3⟩ := hSw); go_simp; try with_reducible rfl)⟩) (by assumption) ?_; simp only [Act.put, List.setIfInBounds_toArray, List.set_cons_succ, List.set_cons_zero]
          refine htake (i := 18) (v := (.int .i64 tb)) rfl (by kernel_rfl) (by kernel_rfl) (by kernel_rfl) (fun _ _ _ h => h) (Or.inl ⟨by rfl, by (intro w hSw; (try dsimp only at hSw); (try obtain ⟨_, _, h3⟩ := hSw); go_simp; try with_reducible rfl)⟩) (by assumption) ?_; simp only [Act.put, List.setIfInBounds_toArray, List.set_cons_succ, List.set_cons_zero]
          refine wpAnyH_ready (rs := [14]) (by kernel_rfl) (by simp) ?_
          refine hcons rfl rfl (fun K hK => ?_) ?_
          · clear hHeld
            refine owp_call rfl (by kernel_rfl) (args := #[.pointer (some ⟨b, 0, none⟩)]) rfl (bad_ok b _ _ _ (hS.get 6 rfl)) ?_
            rintro e w9 ⟨rfl, rfl⟩
            refine ⟨_, rfl, ?_⟩
            refine hK.out _ _ ⟨(hS.get 2 rfl).range 0 1069 (by rw [List.drop_zero, List.take_of_length_le (Nat.le_of_eq (Hlen.out _ _))]), (hS.get 5 rfl).range 0 1069 (by rw [List.drop_zero, List.take_of_length_le (Nat.le_of_eq (Hlen.out _ _))]), (hS.get 8 rfl).cell 2 rfl⟩ (fun hHeld => ?_)
            clear hK K
            simp only [Act.put, List.setIfInBounds_toArray, List.set_cons_succ, List.set_cons_zero]
            refine htake (i := 19) (v := (.bool true)) rfl (by kernel_rfl) (by kernel_rfl) (by kernel_rfl) (fun _ _ _ h => h) (Or.inl ⟨by rfl, by (intro w hSw; (try dsimp only at hSw); (try obtain ⟨_, _, h3⟩ := hSw); go_simp; try with_reducible rfl)⟩) (by assumption) ?_; simp only [Act.put, List.setIfInBounds_toArray, List.set_cons_succ, List.set_cons_zero]
            refine htake (i := 20) (v := (.bool true)) rfl (by kernel_rfl) (by kernel_rfl) (by kernel_rfl) (fun _ _ _ h => h) (Or.inl ⟨by rfl, by (intro w hSw; (try dsimp only at hSw); (try obtain ⟨_, _, h3⟩ := hSw); go_simp; try with_reducible rfl)⟩) (by assumption) ?_; simp only [Act.put, List.setIfInBounds_toArray, List.set_cons_succ, List.set_cons_zero]
            refine htake (i := 21) (v := (.bool true)) rfl (by kernel_rfl) (by kernel_rfl) (by kernel_rfl) (fun _ _ _ h => h) (Or.inl ⟨by rfl, by (intro w hSw; (try dsimp only at hSw); (try obtain ⟨_, _, h3⟩ := hSw); go_simp; try with_reducible rfl)⟩) (by assumption) ?_; simp only [Act.put, List.setIfInBounds_toArray, List.set_cons_succ, List.set_cons_zero]
            refine htake (i := 22) (v := (.slice a5 tr.length c5)) rfl (by kernel_rfl) (by kernel_rfl) (by kernel_rfl) (fun _ _ _ h => h) (Or.inl ⟨by rfl, by (intro w hSw; (try dsimp only at hSw); (try obtain ⟨_, _, h3⟩ := hSw); go_simp; try with_reducible rfl)⟩) (by assumption) ?_; simp only [Act.put, List.setIfInBounds_toArray, List.set_cons_succ, List.set_cons_zero]
            refine htake (i := 25) (v := (.slice a6 tr.length c6)) rfl (by kernel_rfl) (by kernel_rfl) (by kernel_rfl) (fun _ _ _ h => h) (Or.inl ⟨by rfl, by (intro w hSw; (try dsimp only at hSw); (try obtain ⟨_, _, h3⟩ := hSw); go_simp; try with_reducible rfl)⟩) (by assumption) ?_; simp only [Act.put, List.setIfInBounds_toArray, List.set_cons_succ, List.set_cons_zero]
            refine wpAnyH_ready (rs := [23]) (by kernel_rfl) (by simp) ?_
            refine hcons rfl rfl (fun K hK => ?_) ?_
            · clear hHeld
              have hcall := olayTrail_ok none (.slice none 0 0) [] (.slice a5 tr.length c5) tr _ (fun _ _ _ h => by cases h) (RowV.nil _ _) (Hrx3.out.read (hS.get 9 rfl)) (by intro ad mm cc _; simp [keys]) Hok.out (by simp) (by omega)
              refine owp_call rfl (by kernel_rfl) (args := #[.slice none 0 0, .slice a5 tr.length c5]) rfl hcall ?_
              clear hcall
              rintro e w10 ⟨v10, o1, rfl, hro1, hc⟩
              replace hS := hS.call0 hc
              try simp only [List.cons_append, List.nil_append, List.append_nil, List.set_cons_zero, List.set_cons_succ] at hS
              clear hc
              obtain ⟨a10, c10, rfl⟩ := hro1.isSl
              refine ⟨_, rfl, ?_⟩
              refine hK.out _ _ ⟨(hS.get 2 rfl).range 0 1069 (by rw [List.drop_zero, List.take_of_length_le (Nat.le_of_eq (Hlen.out _ _))]), (hS.get 5 rfl).range 0 1069 (by rw [List.drop_zero, List.take_of_length_le (Nat.le_of_eq (Hlen.out _ _))]), (hS.get 8 rfl).cell 2 rfl⟩ (fun hHeld => ?_)
              clear hK K
              simp only [Act.put, List.setIfInBounds_toArray, List.set_cons_succ, List.set_cons_zero]
              refine wpAnyH_ready (rs := [24, 26]) (by kernel_rfl) (by simp) ?_
              refine hcons rfl rfl (fun K hK => ?_) ?_
              · clear hHeld
                refine owp_string rfl Try.underlying73 Try.underlying5 Try.underlying9 rfl (hro1.read (hS.get 13 rfl)) ?_
                refine hK.out _ _ ⟨(hS.get 2 rfl).range 0 1069 (by rw [List.drop_zero, List.take_of_length_le (Nat.le_of_eq (Hlen.out _ _))]), (hS.get 5 rfl).range 0 1069 (by rw [List.drop_zero, List.take_of_length_le (Nat.le_of_eq (Hlen.out _ _))]), (hS.get 8 rfl).cell 2 rfl⟩ (fun hHeld => ?_)
                clear hK K
                simp only [Act.put, List.setIfInBounds_toArray, List.set_cons_succ, List.set_cons_zero]
                refine wpAnyH_ready (rs := [26]) (by kernel_rfl) (by simp) ?_
                refine hcons rfl rfl (fun K hK => ?_) ?_
                · clear hHeld
                  have hcall := rtrail_ok (.slice none 0 0) [] (.slice a6 tr.length c6) tr _ ⟨rfl, .inl ⟨rfl, rfl⟩⟩ (Hrx4.out.read (hS.get 10 rfl)) Hok.out (by simp) (by omega)
                  refine owp_call rfl (by kernel_rfl) (args := #[.slice none 0 0, .slice a6 tr.length c6]) rfl hcall ?_
                  clear hcall
                  rintro e w11 ⟨v11, o2, rfl, hro2, hc⟩
                  replace hS := hS.call0 hc
                  try simp only [List.cons_append, List.nil_append, List.append_nil, List.set_cons_zero, List.set_cons_succ] at hS
                  clear hc
                  obtain ⟨a11, c11, rfl⟩ := hro2.isSl
                  refine ⟨_, rfl, ?_⟩
                  refine hK.out _ _ ⟨(hS.get 2 rfl).range 0 1069 (by rw [List.drop_zero, List.take_of_length_le (Nat.le_of_eq (Hlen.out _ _))]), (hS.get 5 rfl).range 0 1069 (by rw [List.drop_zero, List.take_of_length_le (Nat.le_of_eq (Hlen.out _ _))]), (hS.get 8 rfl).cell 2 rfl⟩ (fun hHeld => ?_)
                  clear hK K
                  simp only [Act.put, List.setIfInBounds_toArray, List.set_cons_succ, List.set_cons_zero]
                  refine wpAnyH_ready (rs := [27]) (by kernel_rfl) (by simp) ?_
                  refine hcons rfl rfl (fun K hK => ?_) ?_
                  · clear hHeld
                    refine owp_string rfl Try.underlying22 Try.underlying5 Try.underlying9 rfl (hro2.read (hS.get 14 rfl)) ?_
                    refine hK.out _ _ ⟨(hS.get 2 rfl).range 0 1069 (by rw [List.drop_zero, List.take_of_length_le (Nat.le_of_eq (Hlen.out _ _))]), (hS.get 5 rfl).range 0 1069 (by rw [List.drop_zero, List.take_of_length_le (Nat.le_of_eq (Hlen.out _ _))]), (hS.get 8 rfl).cell 2 rfl⟩ (fun hHeld => ?_)
                    clear hK K
                    simp only [Act.put, List.setIfInBounds_toArray, List.set_cons_succ, List.set_cons_zero]
                    refine htake (i := 28) (v := (.bool true)) rfl (by kernel_rfl) (by kernel_rfl) (by kernel_rfl) (fun _ _ _ h => h) (Or.inl ⟨by rfl, by (intro w hSw; (try dsimp only at hSw); (try obtain ⟨_, _, h3⟩ := hSw); go_simp; try with_reducible rfl)⟩) (by assumption) ?_; simp only [Act.put, List.setIfInBounds_toArray, List.set_cons_succ, List.set_cons_zero]
                    refine htake (i := 29) (v := (.bool true)) rfl (by kernel_rfl) (by kernel_rfl) (by kernel_rfl) (fun _ _ _ h => h) (Or.inl ⟨by rfl, by (intro w hSw; (try dsimp only at hSw); (try obtain ⟨_, _, h3⟩ := hSw); go_simp; try with_reducible rfl)⟩) (by assumption) ?_; simp only [Act.put, List.setIfInBounds_toArray, List.set_cons_succ, List.set_cons_zero]
                    refine htake (i := 30) (v := (.bool true)) rfl (by kernel_rfl) (by kernel_rfl) (by kernel_rfl) (fun _ _ _ h => h) (Or.inl ⟨by rfl, by (intro w hSw; (try dsimp only at hSw); (try obtain ⟨_, _, h3⟩ := hSw); go_simp; try with_reducible rfl)⟩) (by assumption) ?_; simp only [Act.put, List.setIfInBounds_toArray, List.set_cons_succ, List.set_cons_zero]
                    refine wpAnyH_done (by kernel_rfl) ?_ _
                    clear hHeld
                    go_wp2_with fail
                    go_ret
                    exact ⟨rfl, hS.pick [] rfl (by decide)⟩
                  exact AllReadyH.nil
                exact AllReadyH.nil
              refine hcons rfl rfl (fun K hK => ?_) ?_
              · clear hHeld
                have hcall := rtrail_ok (.slice none 0 0) [] (.slice a6 tr.length c6) tr _ ⟨rfl, .inl ⟨rfl, rfl⟩⟩ (Hrx4.out.read (hS.get 10 rfl)) Hok.out (by simp) (by omega)
                refine owp_call rfl (by kernel_rfl) (args := #[.slice none 0 0, .slice a6 tr.length c6]) rfl hcall ?_
                clear hcall
                rintro e w11 ⟨v11, o2, rfl, hro2, hc⟩
                replace hS := hS.call0 hc
                try simp only [List.cons_append, List.nil_append, List.append_nil, List.set_cons_zero, List.set_cons_succ] at hS
                clear hc
                obtain ⟨a11, c11, rfl⟩ := hro2.isSl
                refine ⟨_, rfl, ?_⟩
                refine hK.out _ _ ⟨(hS.get 2 rfl).range 0 1069 (by rw [List.drop_zero, List.take_of_length_le (Nat.le_of_eq (Hlen.out _ _))]), (hS.get 5 rfl).range 0 1069 (by rw [List.drop_zero, List.take_of_length_le (Nat.le_of_eq (Hlen.out _ _))]), (hS.get 8 rfl).cell 2 rfl⟩ (fun hHeld => ?_)
                clear hK K
                simp only [Act.put, List.setIfInBounds_toArray, List.set_cons_succ, List.set_cons_zero]
                refine wpAnyH_ready (rs := [24, 27]) (by kernel_rfl) (by simp) ?_
                refine hcons rfl rfl (fun K hK => ?_) ?_
                · clear hHeld
                  refine owp_string rfl Try.underlying73 Try.underlying5 Try.underlying9 rfl (hro1.read (hS.get 13 rfl)) ?_
                  refine hK.out _ _ ⟨(hS.get 2 rfl).range 0 1069 (by rw [List.drop_zero, List.take_of_length_le (Nat.le_of_eq (Hlen.out _ _))]), (hS.get 5 rfl).range 0 1069 (by rw [List.drop_zero, List.take_of_length_le (Nat.le_of_eq (Hlen.out _ _))]), (hS.get 8 rfl).cell 2 rfl⟩ (fun hHeld => ?_)
                  clear hK K
                  simp only [Act.put, List.setIfInBounds_toArray, List.set_cons_succ, List.set_cons_zero]
                  refine wpAnyH_ready (rs := [27]) (by kernel_rfl) (by simp) ?_
                  refine hcons rfl rfl (fun K hK => ?_) ?_
                  · clear hHeld
                    refine owp_string rfl Try.underlying22 Try.underlying5 Try.underlying9 rfl (hro2.read (hS.get 14 rfl)) ?_
                    refine hK.out _ _ ⟨(hS.get 2 rfl).range 0 1069 (by rw [List.drop_zero, List.take_of_length_le (Nat.le_of_eq (Hlen.out _ _))]), (hS.get 5 rfl).range 0 1069 (by rw [List.drop_zero, List.take_of_length_le (Nat.le_of_eq (Hlen.out _ _))]), (hS.get 8 rfl).cell 2 rfl⟩ (fun hHeld => ?_)
                    clear hK K
                    simp only [Act.put, List.setIfInBounds_toArray, List.set_cons_succ, List.set_cons_zero]
                    refine htake (i := 28) (v := (.bool true)) rfl (by kernel_rfl) (by kernel_rfl) (by kernel_rfl) (fun _ _ _ h => h) (Or.inl ⟨by rfl, by (intro w hSw; (try dsimp only at hSw); (try obtain ⟨_, _, h3⟩ := hSw); go_simp; try with_reducible rfl)⟩) (by assumption) ?_; simp only [Act.put, List.setIfInBounds_toArray, List.set_cons_succ, List.set_cons_zero]
                    refine htake (i := 29) (v := (.bool true)) rfl (by kernel_rfl) (by kernel_rfl) (by kernel_rfl) (fun _ _ _ h => h) (Or.inl ⟨by rfl, by (intro w hSw; (try dsimp only at hSw); (try obtain ⟨_, _, h3⟩ := hSw); go_simp; try with_reducible rfl)⟩) (by assumption) ?_; simp only [Act.put, List.setIfInBounds_toArray, List.set_cons_succ, List.set_cons_zero]
                    refine htake (i := 30) (v := (.bool true)) rfl (by kernel_rfl) (by kernel_rfl) (by kernel_rfl) (fun _ _ _ h => h) (Or.inl ⟨by rfl, by (intro w hSw; (try dsimp only at hSw); (try obtain ⟨_, _, h3⟩ := hSw); go_simp; try with_reducible rfl)⟩) (by assumption) ?_; simp only [Act.put, List.setIfInBounds_toArray, List.set_cons_succ, List.set_cons_zero]
                    refine wpAnyH_done (by kernel_rfl) ?_ _
                    clear hHeld
                    go_wp2_with fail
                    go_ret
                    exact ⟨rfl, hS.pick [] rfl (by decide)⟩
                  exact AllReadyH.nil
                refine hcons rfl rfl (fun K hK => ?_) ?_
                · clear hHeld
                  refine owp_string rfl Try.underlying22 Try.underlying5 Try.underlying9 rfl (hro2.read (hS.get 14 rfl)) ?_
                  refine hK.out _ _ ⟨(hS.get 2 rfl).range 0 1069 (by rw [List.drop_zero, List.take_of_length_le (Nat.le_of_eq (Hlen.out _ _))]), (hS.get 5 rfl).range 0 1069 (by rw [List.drop_zero, List.take_of_length_le (Nat.le_of_eq (Hlen.out _ _))]), (hS.get 8 rfl).cell 2 rfl⟩ (fun hHeld => ?_)
                  clear hK K
                  simp only [Act.put, List.setIfInBounds_toArray, List.set_cons_succ, List.set_cons_zero]
                  refine wpAnyH_ready (rs := [24]) (by kernel_rfl) (by simp) ?_
                  refine hcons rfl rfl (fun K hK => ?_) ?_
                  · clear hHeld
                    refine owp_string rfl Try.underlying73 Try.underlying5 Try.underlying9 rfl (hro1.read (hS.get 13 rfl)) ?_
                    refine hK.out _ _ ⟨(hS.get 2 rfl).range 0 1069 (by rw [List.drop_zero, List.take_of_length_le (Nat.le_of_eq (Hlen.out _ _))]), (hS.get 5 rfl).range 0 1069 (by rw [List.drop_zero, List.take_of_length_le (Nat.le_of_eq (Hlen.out _ _))]), (hS.get 8 rfl).cell 2 rfl⟩ (fun hHeld => ?_)
                    clear hK K
                    simp only [Act.put, List.setIfInBounds_toArray, List.set_cons_succ, List.set_cons_zero]
                    refine htake (i := 28) (v := (.bool true)) rfl (by kernel_rfl) (by kernel_rfl) (by kernel_rfl) (fun _ _ _ h => h) (Or.inl ⟨by rfl, by (intro w hSw; (try dsimp only at hSw); (try obtain ⟨_, _, h3⟩ := hSw); go_simp; try with_reducible rfl)⟩) (by assumption) ?_; simp only [Act.put, List.setIfInBounds_toArray, List.set_cons_succ, List.set_cons_zero]
                    refine htake (i := 29) (v := (.bool true)) rfl (by kernel_rfl) (by kernel_rfl) (by kernel_rfl) (fun _ _ _ h => h) (Or.inl ⟨by rfl, by (intro w hSw; (try dsimp only at hSw); (try obtain ⟨_, _, h3⟩ := hSw); go_simp; try with_reducible rfl)⟩) (by assumption) ?_; simp only [Act.put, List.setIfInBounds_toArray, List.set_cons_succ, List.set_cons_zero]
                    refine htake (i := 30) (v := (.bool true)) rfl (by kernel_rfl) (by kernel_rfl) (by kernel_rfl) (fun _ _ _ h => h) (Or.inl ⟨by rfl, by (intro w hSw; (try dsimp only at hSw); (try obtain ⟨_, _, h3⟩ := hSw); go_simp; try with_reducible rfl)⟩) (by assumption) ?_; simp only [Act.put, List.setIfInBounds_toArray, List.set_cons_succ, List.set_cons_zero]
                    refine wpAnyH_done (by kernel_rfl) ?_ _
                    clear hHeld
                    go_wp2_with fail
                    go_ret
                    exact ⟨rfl, hS.pick [] rfl (by decide)⟩
                  exact AllReadyH.nil
                exact AllReadyH.nil
              exact AllReadyH.nil
            exact AllReadyH.nil
          exact AllReadyH.nil
        exact AllReadyH.nil
      exact AllReadyH.nil
    exact AllReadyH.nil

end Go.Proofs.Ytjgphbdffhmmgaa
