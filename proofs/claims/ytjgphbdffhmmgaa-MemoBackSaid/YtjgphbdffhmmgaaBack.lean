/-
  MemoBack (tollhouselaw18): for every memo and every slice of bytes the law returns true, and both read afterwards as they read before. Conditions: none.
  (The row's part is the kit's shell for a slice of bytes, as its skeleton writer printed it, turned to a memo beside it; the walk is filled in.)
-/
import Derived.Test.YtjgphbdffhmmgaaCodec
import Derived.Test.YtjgphbdffhmmgaaOpen
import Derived.Test.YtjgphbdffhmmgaaRows
import Derived.WalkKit
import Derived.ProofKit
import Derived.OpenShut
import Derived.ShutString
import Derived.ChangeOld
import Derived.Below
namespace Go.Proofs.Ytjgphbdffhmmgaa
set_option linter.unusedSimpArgs false
set_option linter.unusedVariables false
open Go Go.RowKit
set_option maxRecDepth 100000
set_option maxHeartbeats 4000000

theorem Far.row {e : TypeId} {size n : Nat} {v : Value} {xs : List Value} {x : Ent} (h : RowV e size v n xs x) {w0 w : World} {A : List Nat} {L : List Ent} (hS : St w0 A w L) (i : Nat) (hx : L[i]? = some x) : Far w [] v := by
  intro ad m c e
  refine ⟨by simp, ?_⟩
  rcases h with ⟨rfl, _⟩ | ⟨g, cap, sp, rfl, rfl, _⟩
  · cases e
  · simp only [Value.slice.injEq, Option.some.injEq] at e
    obtain ⟨rfl, _⟩ := e
    exact hS.lt (mem_keys.2 ⟨_, _, mem_getElem? hx⟩)

theorem light_ok (m : Memo) (hf : m.Fit) (a0 c0 a1 c1) (w : World) :
    Calls Try.prog 16 #[.agg (m.cells (.slice a0 m.trail.length c0) (.slice a1 m.sig.way.length c1)).toArray] w
      (fun e w' => e = .returned (.bool (decide (m.trail.length ≤ 60) && decide (m.sig.way.length ≤ 60))) ∧ St w [] w' []) := by
  have hS := St.nil w
  have H42 := Lib.hid (Memo.g42 hf (.slice a0 m.trail.length c0) (.slice a1 m.sig.way.length c1))
  have H1068 := Lib.hid (Memo.g1068 hf (.slice a0 m.trail.length c0) (.slice a1 m.sig.way.length c1))
  clear hf
  generalize m.cells (.slice a0 m.trail.length c0) (.slice a1 m.sig.way.length c1) = cs at *
  generalize m.trail.length = n at *
  generalize m.sig.way.length = k at *
  by_cases h1 : n ≤ 60
  · have h1' : (n : Int) ≤ 60 := by omega
    by_cases h2 : k ≤ 60
    · have h2' : (k : Int) ≤ 60 := by omega
      go_enter Try.func16, Try.ntmps16
      go_wp2_with (first
        | ((with_reducible show wpList _ _ _ (Oper.mk _ (Op.box _ _) _ _ _ _ :: _) _ _); refine wpl rfl ?_; refine owp_box hS rfl (vs := cs) rfl ?_; clear hS; intro gm _ hS; try simp only [List.cons_append, List.nil_append, List.append_nil, List.set_cons_zero, List.set_cons_succ] at hS)
        | ((with_reducible show wpList _ _ _ (Oper.mk (some 4) (Op.load _ _) _ _ _ _ :: _) _ _); refine wpl rfl ?_; refine owp_load1 hS 0 rfl rfl rfl H42.out ?_)
        | ((with_reducible show wpList _ _ _ (Oper.mk (some 10) (Op.load _ _) _ _ _ _ :: _) _ _); refine wpl rfl ?_; refine owp_load1 hS 0 rfl rfl rfl H1068.out ?_))
      go_ret
      exact ⟨by simp [h1, h2], hS.pick [] rfl (by decide)⟩
    · have h2' : ¬ (k : Int) ≤ 60 := by omega
      go_enter Try.func16, Try.ntmps16
      go_wp2_with (first
        | ((with_reducible show wpList _ _ _ (Oper.mk _ (Op.box _ _) _ _ _ _ :: _) _ _); refine wpl rfl ?_; refine owp_box hS rfl (vs := cs) rfl ?_; clear hS; intro gm _ hS; try simp only [List.cons_append, List.nil_append, List.append_nil, List.set_cons_zero, List.set_cons_succ] at hS)
        | ((with_reducible show wpList _ _ _ (Oper.mk (some 4) (Op.load _ _) _ _ _ _ :: _) _ _); refine wpl rfl ?_; refine owp_load1 hS 0 rfl rfl rfl H42.out ?_)
        | ((with_reducible show wpList _ _ _ (Oper.mk (some 10) (Op.load _ _) _ _ _ _ :: _) _ _); refine wpl rfl ?_; refine owp_load1 hS 0 rfl rfl rfl H1068.out ?_))
      go_ret
      exact ⟨by simp [h1, h2], hS.pick [] rfl (by decide)⟩
  · have h1' : ¬ (n : Int) ≤ 60 := by omega
    go_enter Try.func16, Try.ntmps16
    go_wp2_with (first
      | ((with_reducible show wpList _ _ _ (Oper.mk _ (Op.box _ _) _ _ _ _ :: _) _ _); refine wpl rfl ?_; refine owp_box hS rfl (vs := cs) rfl ?_; clear hS; intro gm _ hS; try simp only [List.cons_append, List.nil_append, List.append_nil, List.set_cons_zero, List.set_cons_succ] at hS)
      | ((with_reducible show wpList _ _ _ (Oper.mk (some 4) (Op.load _ _) _ _ _ _ :: _) _ _); refine wpl rfl ?_; refine owp_load1 hS 0 rfl rfl rfl H42.out ?_))
    go_ret
    exact ⟨by simp [h1], hS.pick [] rfl (by decide)⟩

theorem memoBytes_len (m : Memo) (hok : m.Ok) (hr : m.right = true) : (memoBytes m).length ≤ 3000 := by
  have hs := layLamp_length m.sig.l hok.full.sig.shown hok.full.sig.other
  have hf := flatten32 m.sig.way hok.full.sig.way
  have hl : (laySig m.sig).length = 1029 + 32 * m.sig.way.length := by
    simp only [laySig, List.length_append, enc_length, hs, hf, List.length_cons, List.length_nil]
  rcases right_kind hr with hk | hk | hk
  · unfold memoBytes; rw [if_neg (by omega), if_neg (by omega), layHead_length]; omega
  · obtain ⟨-, h2, h3, -⟩ := right1 hr hk
    unfold memoBytes; rw [if_pos hk]
    simp only [List.length_append, layHead_length, enc_length, layOp_length _ hok.full.fit.hash, hl, layTrail, List.length_cons, layHops_length]
    omega
  · have h3 := (right2 hr hk).2
    unfold memoBytes; rw [if_neg (by omega), if_pos hk]
    simp only [List.length_append, layHead_length, enc_length, hl]
    omega

theorem right_lens {m : Memo} (hr : m.right = true) : m.trail.length ≤ 7 ∧ m.sig.way.length ≤ 8 := by
  rcases right_kind hr with hk | hk | hk
  · have e := right0 hr hk
    rw [e]
    exact ⟨by simp, by simp [Sig.zero]⟩
  · obtain ⟨-, h2, h3, -⟩ := right1 hr hk
    exact ⟨h2, h3⟩
  · obtain ⟨h1, h2⟩ := right2 hr hk
    refine ⟨?_, h2⟩
    rw [(bare_eq h1).2]
    simp

def ReadPost2 (m : Memo) (er : Int) (w : World) (e : Ending) (w' : World) : Prop :=
  ∃ tv wv x y, e = .returned (.tuple #[.agg (m.cells tv wv).toArray, .int .i64 er]) ∧ St w [] w' [x, y] ∧
    RowV 96 3 tv m.trail.length (hopCells m.trail) x ∧ RowV 111 32 wv m.sig.way.length (wayCells m.sig.way) y
theorem readMemo_ok2 (u : Value) (l : List UInt8) (w : World) (m : Memo) (er : Int) (e : readMemo l = (m, er)) (hr : RowR w 1 u l.length (bs l)) (hl : l.length ≤ 1000000) :
    Calls Try.prog 6 #[u] w (ReadPost2 m er w) := by
  have h := readMemo_ok u l w hr hl
  unfold ReadPost at h
  rw [e] at h
  exact h

theorem memoBack_ok (m : Memo) (hok : m.Ok) (a0 c0 a1 c1) (u : Value) (l : List UInt8) (w : World) (ht : RowR w 3 (.slice a0 m.trail.length c0) m.trail.length (hopCells m.trail))
    (hw : RowR w 32 (.slice a1 m.sig.way.length c1) m.sig.way.length (wayCells m.sig.way)) (hu : RowR w 1 u l.length (bs l)) :
    Calls Try.prog 4 #[.agg (m.cells (.slice a0 m.trail.length c0) (.slice a1 m.sig.way.length c1)).toArray, u] w (TruePost w) := by
  have hS := St.nil w
  obtain ⟨ax, cx, rfl⟩ := hu.isSl
  have Hu := Lib.hid hu
  have Ht := Lib.hid ht
  have Hw := Lib.hid hw
  have Hok := Lib.hid hok
  have Hlen := Lib.hid (hok.full.fit.len (.slice a0 m.trail.length c0) (.slice a1 m.sig.way.length c1))
  have Hlight := Lib.hid (light_ok m hok.full.fit a0 c0 a1 c1)
  have Hto := Lib.hid (fun h1 h2 w' (hS : RowR w' 3 _ _ _) hS2 => memoTo_ok m hok.full (.slice a0 m.trail.length c0) (.slice a1 m.sig.way.length c1) w' hS hS2 h1 h2)
  have Hsame := Lib.hid (fun h1 h2 t u w' (hS1 : RowR w' 3 t _ _) hS2 hS3 hS4 => memoSame_ok m hok.full t u (.slice a0 m.trail.length c0) (.slice a1 m.sig.way.length c1) w' hS1 hS2 hS3 hS4 h1 h2)
  clear hu ht hw hok
  generalize hcs : m.cells (.slice a0 m.trail.length c0) (.slice a1 m.sig.way.length c1) = cs at *
  clear hcs
  go_enter Try.func4, Try.ntmps4
  go_wp2_with (first
    | ((with_reducible show wpList _ _ _ (Oper.mk _ (Op.box _ _) _ _ _ _ :: _) _ _); refine wpl rfl ?_; refine owp_box hS rfl (vs := cs) rfl ?_; clear hS; intro gb _ hS; try simp only [List.cons_append, List.nil_append, List.append_nil, List.set_cons_zero, List.set_cons_succ] at hS)
    | ((with_reducible show wpList _ _ _ (Oper.mk _ (Op.load _ _) _ _ _ _ :: _) _ _); refine wpl rfl ?_; refine (owp_loadW hS 0 rfl rfl rfl (Hlen.out) ?_)))
  refine (Hlight.out _).mono ?_
  rintro e w1 ⟨rfl, hc⟩
  replace hS := hS.call0 hc
  try simp only [List.cons_append, List.nil_append, List.append_nil, List.set_cons_zero, List.set_cons_succ] at hS
  clear hc
  by_cases hli : m.trail.length ≤ 60 ∧ m.sig.way.length ≤ 60
  · rw [show (decide (m.trail.length ≤ 60) && decide (m.sig.way.length ≤ 60)) = true by simp [hli.1, hli.2]]
    by_cases hbig : 20000 < l.length
    · go_wp2_with fail
      refine (awake_ok _).mono ?_
      rintro e w1 ⟨rfl, hc⟩
      replace hS := hS.call0 hc
      clear hc
      go_wp2_with fail
      go_ret
      exact ⟨rfl, hS.pick [] rfl (by decide)⟩
    · have hl : l.length ≤ 1000000 := by omega
      have hnb : (l.length : Int) ≤ 20000 := by omega
      obtain ⟨x, hx⟩ : ∃ x, x = (readMemo l).1 := ⟨_, rfl⟩
      obtain ⟨er, her0⟩ : ∃ er, er = (readMemo l).2 := ⟨_, rfl⟩
      have Hread := Lib.hid (show readMemo l = (x, er) by rw [hx, her0])
      have Hxok := Lib.hid (show x.Ok by rw [hx]; exact readMemo_okM l)
      have Hback := Lib.hid (show er = 0 → x.right = true ∧ memoBytes x = l by intro h; rw [hx]; exact readMemo_inv l (by rw [← her0]; exact h))
      clear hx her0
      obtain ⟨hli1, hli2⟩ := hli
      go_wp2_with (first | ((with_reducible show wpList _ _ _ (Oper.mk _ (Op.load _ _) _ _ _ _ :: _) _ _); refine wpl rfl ?_; refine (owp_loadW hS 0 rfl rfl rfl (Hlen.out) ?_)))
      refine (Hto.out (by omega) (by omega) _ (Ht.out.st0 hS) (Hw.out.st0 hS)).mono ?_
      rintro e w2 ⟨tv2, wv2, x2, y2, rfl, hc, hrx2, hry2⟩
      replace hS := hS.call0 hc
      try simp only [List.cons_append, List.nil_append, List.append_nil, List.set_cons_zero, List.set_cons_succ] at hS
      clear hc
      obtain ⟨a3, c3, rfl⟩ := hrx2.isSl
      obtain ⟨a4, c4, rfl⟩ := hry2.isSl
      have Hrx2 := Lib.hid hrx2
      have Hry2 := Lib.hid hry2
      clear hrx2 hry2
      by_cases hr : m.right = true
      · have Hr := Lib.hid hr
        clear hr
        go_wp2_with fail
        refine (bytes_ok m _ a3 c3 a4 c4 ⟨rfl, Hok.out.full.fit⟩ _ Hok.out Hr.out (Hrx2.out.read (hS.get 1 rfl)) (Hry2.out.read (hS.get 2 rfl)) (Far.row Hrx2.out hS 1 rfl) (Far.row Hry2.out hS 2 rfl)).mono ?_
        rintro e w3 ⟨v3, x3, rfl, hrow3, hc⟩
        replace hS := hS.call0 hc
        try simp only [List.cons_append, List.nil_append, List.append_nil, List.set_cons_zero, List.set_cons_succ] at hS
        clear hc
        obtain ⟨a5, c5, rfl⟩ := hrow3.isSl
        have Hrow3 := Lib.hid hrow3
        have Hrb := Lib.hid (readMemo_bytes m Hok.out Hr.out)
        have hbl := memoBytes_len m Hok.out Hr.out
        clear hrow3
        generalize memoBytes m = p at *
        go_wp2_with fail
        refine (readMemo_ok2 _ p _ m 0 Hrb.out (Hrow3.out.read (hS.get 3 rfl)) (by omega)).mono ?_
        rintro e w4 ⟨tv4, wv4, x4, y4, rfl, hc, hrx4, hry4⟩
        replace hS := hS.call0 hc
        try simp only [List.cons_append, List.nil_append, List.append_nil, List.set_cons_zero, List.set_cons_succ] at hS
        clear hc
        obtain ⟨a6, c6, rfl⟩ := hrx4.isSl
        obtain ⟨a7, c7, rfl⟩ := hry4.isSl
        have Hrx4 := Lib.hid hrx4
        have Hry4 := Lib.hid hry4
        clear hrx4 hry4
        have Hm1 := Lib.hid (show (m.cells (.slice a6 m.trail.length c6) (.slice a7 m.sig.way.length c7)).length = 1069 from Hok.out.full.fit.len _ _)
        have Hm2 := Lib.hid (Memo.one m (.slice a6 m.trail.length c6) (.slice a7 m.sig.way.length c7) rfl rfl)
        go_wp2_with (first
          | ((with_reducible show wpList _ _ _ (Oper.mk (some 7) (Op.alloc _) _ _ _ _ :: _) _ _); refine wpl rfl ?_; refine (owp_allocAt hS 7 rfl rfl ?_); clear hS; intro g7 _ hS; simp only [List.cons_append, List.nil_append] at hS)
          | ((with_reducible show wpList _ _ _ (Oper.mk _ (Op.store _ _ _) _ _ _ _ :: _) _ _); refine wpl rfl ?_; refine (owp_storeW hS 6 rfl rfl rfl rfl (Hm1.out) (Memo.Fit.zero.len _ _) (Hm2.out) ?_); clear hS; intro _ hS; try simp only [List.cons_append, List.nil_append, List.append_nil, List.set_cons_zero, List.set_cons_succ] at hS))
        replace hS := hS.drew
        refine wp_region_held_drew (S := (fun w' => CellsAt w' ⟨g7, 0, none⟩ (m.cells (.slice a6 m.trail.length c6) (.slice a7 m.sig.way.length c7)) ∧ CellsAt w' ⟨gb, 0, none⟩ cs)) (by kernel_rfl) ⟨(hS.get 6 rfl).range 0 1069 (by rw [List.drop_zero, List.take_of_length_le (Nat.le_of_eq Hm1.out)]), (hS.get 0 rfl).range 0 1069 (by rw [List.drop_zero, List.take_of_length_le (Nat.le_of_eq Hlen.out)])⟩ (fun hHeld => ?_)
        refine htake (i := 0) (v := (.int .i64 0)) rfl (by kernel_rfl) (by kernel_rfl) (by kernel_rfl) (fun _ _ _ h => h) (Or.inl ⟨by rfl, by (intro w hSw; (try dsimp only at hSw); (try obtain hSw := hSw); go_simp; try with_reducible rfl)⟩) (by assumption) ?_; simp only [Act.put, List.setIfInBounds_toArray, List.set_cons_succ, List.set_cons_zero]
        refine htake (i := 1) (v := (.bool false)) rfl (by kernel_rfl) (by kernel_rfl) (by kernel_rfl) (fun _ _ _ h => h) (Or.inl ⟨by rfl, by (intro w hSw; (try dsimp only at hSw); (try obtain hSw := hSw); go_simp; try with_reducible rfl)⟩) (by assumption) ?_; simp only [Act.put, List.setIfInBounds_toArray, List.set_cons_succ, List.set_cons_zero]
        refine htake (i := 2) (v := (.bool false)) rfl (by kernel_rfl) (by kernel_rfl) (by kernel_rfl) (fun _ _ _ h => h) (Or.inl ⟨by rfl, by (intro w hSw; (try dsimp only at hSw); (try obtain hSw := hSw); go_simp; try with_reducible rfl)⟩) (by assumption) ?_; simp only [Act.put, List.setIfInBounds_toArray, List.set_cons_succ, List.set_cons_zero]
        refine htake (i := 3) (v := (.agg (m.cells (.slice a6 m.trail.length c6) (.slice a7 m.sig.way.length c7)).toArray)) rfl (by kernel_rfl) (by kernel_rfl) (by kernel_rfl) (fun _ _ _ h => h) (Or.inl ⟨by rfl, yl_loadR rfl rfl Hm1.out (fun _ h => h.1)⟩) (by assumption) ?_; simp only [Act.put, List.setIfInBounds_toArray, List.set_cons_succ, List.set_cons_zero]
        refine htake (i := 5) (v := (.agg cs.toArray)) rfl (by kernel_rfl) (by kernel_rfl) (by kernel_rfl) (fun _ _ _ h => h) (Or.inl ⟨by rfl, yl_loadR rfl rfl Hlen.out (fun _ h => h.2)⟩) (by assumption) ?_; simp only [Act.put, List.setIfInBounds_toArray, List.set_cons_succ, List.set_cons_zero]
        refine wpAnyH_ready (rs := [4]) (by kernel_rfl) (by simp) ?_
        refine hcons rfl rfl (fun K hK => ?_) ?_
        · clear hHeld
          have hcall := memoFrom_ok m Hok.out.full (.slice a6 m.trail.length c6) (.slice a7 m.sig.way.length c7) _ (Hrx4.out.read (hS.get 4 rfl)) (Hry4.out.read (hS.get 5 rfl)) (by omega) (by omega)
          refine owp_call rfl (by kernel_rfl) (args := #[.agg (m.cells (.slice a6 m.trail.length c6) (.slice a7 m.sig.way.length c7)).toArray]) rfl hcall ?_
          clear hcall
          rintro e w5 ⟨tv5, wv5, x5, y5, rfl, hc, hrx5, hry5⟩
          replace hS := hS.call0 hc
          try simp only [List.cons_append, List.nil_append, List.append_nil, List.set_cons_zero, List.set_cons_succ] at hS
          clear hc
          refine ⟨_, rfl, ?_⟩
          refine hK.out _ _ ⟨(hS.get 6 rfl).range 0 1069 (by rw [List.drop_zero, List.take_of_length_le (Nat.le_of_eq Hm1.out)]), (hS.get 0 rfl).range 0 1069 (by rw [List.drop_zero, List.take_of_length_le (Nat.le_of_eq Hlen.out)])⟩ (fun hHeld => ?_)
          clear hK K
          simp only [Act.put, List.setIfInBounds_toArray, List.set_cons_succ, List.set_cons_zero]
          refine wpAnyH_ready (rs := [6]) (by kernel_rfl) (by simp) ?_
          refine hcons rfl rfl (fun K hK => ?_) ?_
          · clear hHeld
            have hcall := Hsame.out (by omega) (by omega) tv5 wv5 _ (hrx5.read (hS.get 7 rfl)) (Ht.out.st0 hS) (hry5.read (hS.get 8 rfl)) (Hw.out.st0 hS)
            refine owp_call rfl (by kernel_rfl) (args := #[.agg (m.cells tv5 wv5).toArray, .agg cs.toArray]) rfl hcall ?_
            clear hcall
            rintro e w6 ⟨rfl, hc⟩
            replace hS := hS.call0 hc
            try simp only [List.cons_append, List.nil_append, List.append_nil, List.set_cons_zero, List.set_cons_succ] at hS
            clear hc hrx5 hry5
            refine ⟨_, rfl, ?_⟩
            refine hK.out _ _ ⟨(hS.get 6 rfl).range 0 1069 (by rw [List.drop_zero, List.take_of_length_le (Nat.le_of_eq Hm1.out)]), (hS.get 0 rfl).range 0 1069 (by rw [List.drop_zero, List.take_of_length_le (Nat.le_of_eq Hlen.out)])⟩ (fun hHeld => ?_)
            clear hK K
            simp only [Act.put, List.setIfInBounds_toArray, List.set_cons_succ, List.set_cons_zero]
            refine htake (i := 7) (v := (.bool false)) rfl (by kernel_rfl) (by kernel_rfl) (by kernel_rfl) (fun _ _ _ h => h) (Or.inl ⟨by rfl, by (intro w hSw; (try dsimp only at hSw); (try obtain hSw := hSw); go_simp; try with_reducible rfl)⟩) (by assumption) ?_; simp only [Act.put, List.setIfInBounds_toArray, List.set_cons_succ, List.set_cons_zero]
            refine htake (i := 8) (v := (.bool false)) rfl (by kernel_rfl) (by kernel_rfl) (by kernel_rfl) (fun _ _ _ h => h) (Or.inl ⟨by rfl, by (intro w hSw; (try dsimp only at hSw); (try obtain hSw := hSw); go_simp; try with_reducible rfl)⟩) (by assumption) ?_; simp only [Act.put, List.setIfInBounds_toArray, List.set_cons_succ, List.set_cons_zero]
            refine wpAnyH_done (by kernel_rfl) ?_ _
            clear hHeld
            clear hbl
            -- here: hS at [box, ..]: region 8
            replace hS := hS.pick [0] (L' := [some (gb, cs, 60)]) rfl (by decide)
            go_wp2_with fail
            refine (readMemo_ok2 _ l _ x er Hread.out (Hu.out.st0 hS) hl).mono ?_
            rintro e w8 ⟨tv8, wv8, x8, y8, rfl, hc, hrx8, hry8⟩
            replace hS := hS.call0 hc
            try simp only [List.cons_append, List.nil_append, List.append_nil, List.set_cons_zero, List.set_cons_succ] at hS
            clear hc
            obtain ⟨a8, c8, rfl⟩ := hrx8.isSl
            obtain ⟨a9, c9, rfl⟩ := hry8.isSl
            have Hrx8 := Lib.hid hrx8
            have Hry8 := Lib.hid hry8
            clear hrx8 hry8
            have Hx1 := Lib.hid (show (x.cells (.slice a8 x.trail.length c8) (.slice a9 x.sig.way.length c9)).length = 1069 from Hxok.out.full.fit.len _ _)
            have Hx2 := Lib.hid (Memo.one x (.slice a8 x.trail.length c8) (.slice a9 x.sig.way.length c9) rfl rfl)
            by_cases her : er = 0
            · have hxb := Hback.out her
              have Hxb := Lib.hid hxb
              clear hxb
              subst her
              go_wp2_with (first
                | ((with_reducible show wpList _ _ _ (Oper.mk (some 9) (Op.alloc _) _ _ _ _ :: _) _ _); refine wpl rfl ?_; refine (owp_allocAt hS 9 rfl rfl ?_); clear hS; intro g9 _ hS; simp only [List.cons_append, List.nil_append] at hS)
                | ((with_reducible show wpList _ _ _ (Oper.mk _ (Op.store _ _ _) _ _ _ _ :: _) _ _); refine wpl rfl ?_; refine (owp_storeW hS 3 rfl rfl rfl rfl (Hx1.out) (Memo.Fit.zero.len _ _) (Hx2.out) ?_); clear hS; intro _ hS; try simp only [List.cons_append, List.nil_append, List.append_nil, List.set_cons_zero, List.set_cons_succ] at hS)
                | ((with_reducible show wpList _ _ _ (Oper.mk _ (Op.load _ _) _ _ _ _ :: _) _ _); refine wpl rfl ?_; refine (owp_loadW hS 3 rfl rfl rfl (Hx1.out) ?_)))
              refine (bytes_ok x _ a8 c8 a9 c9 ⟨rfl, Hxok.out.full.fit⟩ _ Hxok.out Hxb.out.1 (Hrx8.out.read (hS.get 1 rfl)) (Hry8.out.read (hS.get 2 rfl)) (Far.row Hrx8.out hS 1 rfl) (Far.row Hry8.out hS 2 rfl)).mono ?_
              rintro e w9 ⟨v9, x9, rfl, hrow9, hc⟩
              rw [Hxb.out.2] at hrow9
              replace hS := hS.call0 hc
              try simp only [List.cons_append, List.nil_append, List.append_nil, List.set_cons_zero, List.set_cons_succ] at hS
              clear hc
              obtain ⟨a10, c10, rfl⟩ := hrow9.isSl
              have Hrow9 := Lib.hid hrow9
              clear hrow9
              go_wp2_with (first
                | ((with_reducible show wpList _ _ _ (Oper.mk (some 60) (Op.convert _ _ _) _ _ _ _ :: _) _ _); refine wpl rfl ?_; refine owp_string rfl Try.underlying22 Try.underlying5 Try.underlying9 rfl (Hrow9.out.read (hS.get 4 rfl)) ?_)
                | ((with_reducible show wpList _ _ _ (Oper.mk (some 62) (Op.convert _ _ _) _ _ _ _ :: _) _ _); refine wpl rfl ?_; refine owp_string rfl Try.underlying22 Try.underlying5 Try.underlying9 rfl (Hu.out.st0 hS) ?_))
              refine (awake_ok _).mono ?_
              rintro e w1 ⟨rfl, hc⟩
              replace hS := hS.call0 hc
              clear hc
              go_wp2_with fail
              go_ret
              exact ⟨rfl, hS.pick [] rfl (by decide)⟩
            · have her2 : (er == 0) = false := by simpa using her
              go_wp2_with (first
                | ((with_reducible show wpList _ _ _ (Oper.mk (some 9) (Op.alloc _) _ _ _ _ :: _) _ _); refine wpl rfl ?_; refine (owp_allocAt hS 9 rfl rfl ?_); clear hS; intro g9 _ hS; simp only [List.cons_append, List.nil_append] at hS)
                | ((with_reducible show wpList _ _ _ (Oper.mk _ (Op.store _ _ _) _ _ _ _ :: _) _ _); refine wpl rfl ?_; refine (owp_storeW hS 3 rfl rfl rfl rfl (Hx1.out) (Memo.Fit.zero.len _ _) (Hx2.out) ?_); clear hS; intro _ hS; try simp only [List.cons_append, List.nil_append, List.append_nil, List.set_cons_zero, List.set_cons_succ] at hS))
              refine (awake_ok _).mono ?_
              rintro e w1 ⟨rfl, hc⟩
              replace hS := hS.call0 hc
              clear hc
              go_wp2_with fail
              go_ret
              exact ⟨rfl, hS.pick [] rfl (by decide)⟩
          exact AllReadyH.nil
        exact AllReadyH.nil
      · have hrf : m.right = false := by simpa using hr
        go_wp2_with fail
        refine (bytesBad_ok m _ a3 c3 a4 c4 ⟨rfl, Hok.out.full.fit⟩ _ hrf).mono ?_
        rintro e w3 ⟨rfl, hc⟩
        replace hS := hS.call0 hc
        try simp only [List.cons_append, List.nil_append, List.append_nil, List.set_cons_zero, List.set_cons_succ] at hS
        clear hc hr hrf
        -- here: hS at [box, ..]: region 8
        replace hS := hS.pick [0] (L' := [some (gb, cs, 60)]) rfl (by decide)
        go_wp2_with fail
        refine (readMemo_ok2 _ l _ x er Hread.out (Hu.out.st0 hS) hl).mono ?_
        rintro e w8 ⟨tv8, wv8, x8, y8, rfl, hc, hrx8, hry8⟩
        replace hS := hS.call0 hc
        try simp only [List.cons_append, List.nil_append, List.append_nil, List.set_cons_zero, List.set_cons_succ] at hS
        clear hc
        obtain ⟨a8, c8, rfl⟩ := hrx8.isSl
        obtain ⟨a9, c9, rfl⟩ := hry8.isSl
        have Hrx8 := Lib.hid hrx8
        have Hry8 := Lib.hid hry8
        clear hrx8 hry8
        have Hx1 := Lib.hid (show (x.cells (.slice a8 x.trail.length c8) (.slice a9 x.sig.way.length c9)).length = 1069 from Hxok.out.full.fit.len _ _)
        have Hx2 := Lib.hid (Memo.one x (.slice a8 x.trail.length c8) (.slice a9 x.sig.way.length c9) rfl rfl)
        by_cases her : er = 0
        · have hxb := Hback.out her
          have Hxb := Lib.hid hxb
          clear hxb
          subst her
          go_wp2_with (first
            | ((with_reducible show wpList _ _ _ (Oper.mk (some 9) (Op.alloc _) _ _ _ _ :: _) _ _); refine wpl rfl ?_; refine (owp_allocAt hS 9 rfl rfl ?_); clear hS; intro g9 _ hS; simp only [List.cons_append, List.nil_append] at hS)
            | ((with_reducible show wpList _ _ _ (Oper.mk _ (Op.store _ _ _) _ _ _ _ :: _) _ _); refine wpl rfl ?_; refine (owp_storeW hS 3 rfl rfl rfl rfl (Hx1.out) (Memo.Fit.zero.len _ _) (Hx2.out) ?_); clear hS; intro _ hS; try simp only [List.cons_append, List.nil_append, List.append_nil, List.set_cons_zero, List.set_cons_succ] at hS)
            | ((with_reducible show wpList _ _ _ (Oper.mk _ (Op.load _ _) _ _ _ _ :: _) _ _); refine wpl rfl ?_; refine (owp_loadW hS 3 rfl rfl rfl (Hx1.out) ?_)))
          refine (bytes_ok x _ a8 c8 a9 c9 ⟨rfl, Hxok.out.full.fit⟩ _ Hxok.out Hxb.out.1 (Hrx8.out.read (hS.get 1 rfl)) (Hry8.out.read (hS.get 2 rfl)) (Far.row Hrx8.out hS 1 rfl) (Far.row Hry8.out hS 2 rfl)).mono ?_
          rintro e w9 ⟨v9, x9, rfl, hrow9, hc⟩
          rw [Hxb.out.2] at hrow9
          replace hS := hS.call0 hc
          try simp only [List.cons_append, List.nil_append, List.append_nil, List.set_cons_zero, List.set_cons_succ] at hS
          clear hc
          obtain ⟨a10, c10, rfl⟩ := hrow9.isSl
          have Hrow9 := Lib.hid hrow9
          clear hrow9
          go_wp2_with (first
            | ((with_reducible show wpList _ _ _ (Oper.mk (some 60) (Op.convert _ _ _) _ _ _ _ :: _) _ _); refine wpl rfl ?_; refine owp_string rfl Try.underlying22 Try.underlying5 Try.underlying9 rfl (Hrow9.out.read (hS.get 4 rfl)) ?_)
            | ((with_reducible show wpList _ _ _ (Oper.mk (some 62) (Op.convert _ _ _) _ _ _ _ :: _) _ _); refine wpl rfl ?_; refine owp_string rfl Try.underlying22 Try.underlying5 Try.underlying9 rfl (Hu.out.st0 hS) ?_))
          refine (awake_ok _).mono ?_
          rintro e w1 ⟨rfl, hc⟩
          replace hS := hS.call0 hc
          clear hc
          go_wp2_with fail
          go_ret
          exact ⟨rfl, hS.pick [] rfl (by decide)⟩
        · have her2 : (er == 0) = false := by simpa using her
          go_wp2_with (first
            | ((with_reducible show wpList _ _ _ (Oper.mk (some 9) (Op.alloc _) _ _ _ _ :: _) _ _); refine wpl rfl ?_; refine (owp_allocAt hS 9 rfl rfl ?_); clear hS; intro g9 _ hS; simp only [List.cons_append, List.nil_append] at hS)
            | ((with_reducible show wpList _ _ _ (Oper.mk _ (Op.store _ _ _) _ _ _ _ :: _) _ _); refine wpl rfl ?_; refine (owp_storeW hS 3 rfl rfl rfl rfl (Hx1.out) (Memo.Fit.zero.len _ _) (Hx2.out) ?_); clear hS; intro _ hS; try simp only [List.cons_append, List.nil_append, List.append_nil, List.set_cons_zero, List.set_cons_succ] at hS))
          refine (awake_ok _).mono ?_
          rintro e w1 ⟨rfl, hc⟩
          replace hS := hS.call0 hc
          clear hc
          go_wp2_with fail
          go_ret
          exact ⟨rfl, hS.pick [] rfl (by decide)⟩
  · have hlf : (decide (m.trail.length ≤ 60) && decide (m.sig.way.length ≤ 60)) = false := by
      by_cases h1 : m.trail.length ≤ 60
      · have h2 : ¬ m.sig.way.length ≤ 60 := fun h2 => hli ⟨h1, h2⟩
        simp [h2]
      · simp [h1]
    rw [hlf]
    go_wp2_with fail
    refine (awake_ok _).mono ?_
    rintro e w1 ⟨rfl, hc⟩
    replace hS := hS.call0 hc
    clear hc
    go_wp2_with fail
    go_ret
    exact ⟨rfl, hS.pick [] rfl (by decide)⟩


theorem okRow_lin {P : Program} {w : World} {t : TypeId} {cs : Array Value} {ts : List TypeId} (hts : P.cellTypes P.depth t = some ts) (hl : cs.size = ts.length)
    (h : (List.zip cs.toList ts).all (fun x => Cell.okWideB P w x.2 x.1) = true) : Cell.okWideRowB P w t cs = true := by
  unfold Cell.okWideRowB
  simp only [hts, hl, Nat.mod_self, beq_self_eq_true, Bool.true_and, List.all_eq_true, List.mem_range] at h ⊢
  intro i hi
  rw [Nat.mod_eq_of_lt hi]
  have hi2 : i < cs.size := by omega
  rw [Array.getElem?_eq_getElem hi2, List.getElem?_eq_getElem hi]
  simp only
  refine h (cs[i], ts[i]) ?_
  refine List.mem_iff_getElem.2 ⟨i, ?_, ?_⟩
  · simp only [List.length_zip, Array.length_toList]; omega
  · simp [List.getElem_zip]

theorem okInput2 {P : Program} {w : World} {f : FuncId} {fn : Func} {t0 t1 : TypeId} {v0 v1 : Value} (hf : P.funcs[f]? = some fn) (hi : (P.inits.idxOf? f).isNone = true) (hb : fn.body.isSome = true) (ho : fn.ours = false) (hn : fn.nfree = 0)
    (hp : fn.params = #[t0, t1]) (h0 : Value.okWideB P w t0 v0 = true) (h1 : Value.okWideB P w t1 v1 = true) : Input.okWideB P w f ⟨#[], #[v0, v1], []⟩ = true := by
  have e : List.range 2 = [0, 1] := rfl
  unfold Input.okWideB
  simp [hf, hi, hb, ho, hn, hp, h0, h1, e]

def backArgs : Array Value := #[.agg (Memo.zero.cells (.slice none 0 0) (.slice none 0 0)).toArray, .slice none 0 0]
theorem back_memo (w : World) : Value.okWideB Try.prog w 60 (.agg (Memo.zero.cells (.slice none 0 0) (.slice none 0 0)).toArray) = true := by
  have h : Cell.okWideRowB Try.prog w 60 (Memo.zero.cells (.slice none 0 0) (.slice none 0 0)).toArray = true :=
    okRow_lin (ts := (Try.prog.cellTypes Try.prog.depth 60).getD []) (by kernel_rfl) (by kernel_rfl) (by kernel_rfl)
  have hs : ((Memo.zero.cells (.slice none 0 0) (.slice none 0 0)).toArray.size == Try.prog.cellsOf 60) = true := by kernel_rfl
  unfold Value.okWideB
  rw [Try.underlying60]
  simp only [h, hs, Bool.and_true]
theorem back_ok (w : World) : Input.okWideB Try.checked.prog w 4 ⟨#[], backArgs, []⟩ = true :=
  okInput2 (P := Try.prog) (t0 := 60) (t1 := 22) Try.func4 (by kernel_rfl) (by kernel_rfl) (by kernel_rfl) (by kernel_rfl) (by kernel_rfl) (back_memo w) (by kernel_rfl)

end Go.Proofs.Ytjgphbdffhmmgaa
namespace Go.Proofs.Ytjgphbdffhmmgaa.memoBack
set_option linter.unusedSimpArgs false
set_option linter.unusedVariables false
open Go.ChangeShapes Go.WideShapes Go.ChangeAt Go.RowKit
open Go.ChangeMaps (open_string shut_string)

theorem own : ownKnob Try.prog.godebug = none := by kernel_rfl
theorem laidOut : laidOutB Try.prog = true := by kernel_rfl

/-- WHAT THE WALK IS TOLD OF A SLICE OF INTEGERS THAT CAME IN: it is nil; or it leads to a row of 'cap' cells, the numbers 'zs' (the first 'len' are its elements, the rest its spare room), each fitting its kind. -/
def IsRow (k : IntKind) (w : World) (a : Option Addr) (len cap : Nat) (zs : List Int) : Prop :=
  (a = none ∧ len = 0 ∧ cap = 0 ∧ zs = []) ∨
  ∃ x, a = some x ∧ len ≤ cap ∧ cap ≤ maxLen ∧ zs.length = cap ∧ (∀ i, i < zs.length → w.cell? (x.add i) = some (.int k (zs.getD i 0))) ∧ ∀ n ∈ zs, (Lit.int k n).wf = true

/-! ### STEP 1: THE WALK: the Go text returns true, AND WRITES NOTHING THAT WAS THERE: 'Below w.heap.size w w'' (Derived/Below.lean: '.refl', '.alloc', '.drew', '.setCell' at a new block, '.trans'). Open each 'IsRow' by 'rcases' AHEAD of 'go_enter'; part every test ahead of the walk. -/
theorem walk (m : Memo) (hok : m.Ok) (a1 : Option Addr) (c1 : Nat) (a2 : Option Addr) (c2 : Nat) (a0 : Option Addr) (len0 cap0 : Nat) (z0 : List Int) (w : World) (ht : RowR w 3 (.slice a1 m.trail.length c1) m.trail.length (hopCells m.trail))
    (hw : RowR w 32 (.slice a2 m.sig.way.length c2) m.sig.way.length (wayCells m.sig.way)) (w0 : IsRow .u8 w a0 len0 cap0 z0) :
    Calls Try.prog 4 #[.agg (m.cells (.slice a1 m.trail.length c1) (.slice a2 m.sig.way.length c2)).toArray, .slice a0 len0 cap0] w fun e w' => e = .returned (.bool true) ∧ Below w.heap.size w w' := by
  have fin : ∀ l : List UInt8, RowR w 1 (.slice a0 len0 cap0) l.length (bs l) → Calls Try.prog 4 #[.agg (m.cells (.slice a1 m.trail.length c1) (.slice a2 m.sig.way.length c2)).toArray, .slice a0 len0 cap0] w fun e w' => e = .returned (.bool true) ∧ Below w.heap.size w w' := by
    intro l h
    refine (memoBack_ok m hok a1 c1 a2 c2 _ l w ht hw h).mono ?_
    rintro e w' ⟨rfl, hS⟩
    exact ⟨rfl, hS.below⟩
  rcases w0 with ⟨rfl, rfl, rfl, rfl⟩ | ⟨x, rfl, hl, hm, hz, hcell, hwz⟩
  · exact fin [] ⟨rfl, .inl ⟨rfl, rfl⟩⟩
  · obtain ⟨l, hlen, hrow⟩ := rowR_of_ints x len0 cap0 z0 w hl hz hcell hwz
    subst hlen
    exact fin l hrow

/-! ### THE ROW's STEP: WRITTEN OUT: LEAVE IT -/
set_option maxRecDepth 100000 in
theorem lifted (os : Os) (started : os.Started) (H : Type) (enc : TypeId × Value → H) :
    ReturnsInHanded {} Try.checked os 4 .any (Rows.memoBackSpec.pre6 enc Try.prog Try.f4 Rows.memoBackRow.domain false) (Rows.memoBackSpec.post enc Try.prog Try.f4 false true false false) := by
  refine returnsInHanded_of_change (C := Try.checked) own started (by kernel_rfl) Try.func4
    (ChangeSpec.witness6 (enc := enc) (C := Try.checked) false ⟨#[], backArgs, []⟩ 12 (by kernel_rfl) (by kernel_rfl) (back_ok _) (by kernel_rfl)) ?_
  intro W base args ds gs before hval0 hW hcnd _
  have hval : ∀ (j : Nat) t v, Try.f4.params[j]? = some t → args[j]? = some v → Value.okWide Try.prog W .any base t v := hval0
  have hW' := hW
  obtain ⟨p, q, hA0, hV, rfl, hfz, hnd⟩ := hW
  have hA : DataW.TrodAll enc Try.prog W 0 (fun _ => true) true Try.f4.params.toList args.toList ds p := hA0
  rw [Try.params4] at hA hval
  obtain ⟨v0, vs0, d0, ds0, p0, q0, hargs, rfl, rfl, h0, r0⟩ := trodAll_cons hA
  obtain ⟨v1, vs1, d1, ds1, p1, q1, rfl, rfl, rfl, h1, r1⟩ := trodAll_cons r0
  obtain ⟨rfl, rfl, rfl⟩ := trodAll_nil r1
  obtain rfl : args = #[v0, v1] := by cases args; simp_all
  obtain ⟨rfl, rfl⟩ := trodVars_none hV
  obtain ⟨ca, rfl, _⟩ := okWide_struct Try.underlying60 (hval 0 60 v0 rfl rfl)
  have k0 := h0
  have lt0 : ∀ x ∈ p0, x.block < W.heap.size := by obtain ⟨m, hm⟩ := k0; exact DataW.trod_lt m _ _ _ hm
  obtain ⟨m, a1, c1, a2, c2, rfl, hok, ht, hw⟩ : ∃ (m : Memo) (a1 : Option Addr) (c1 : Nat) (a2 : Option Addr) (c2 : Nat), ca = (m.cells (.slice a1 m.trail.length c1) (.slice a2 m.sig.way.length c2)).toArray ∧ m.Ok ∧
      RowR W 3 (.slice a1 m.trail.length c1) m.trail.length (hopCells m.trail) ∧ RowR W 32 (.slice a2 m.sig.way.length c2) m.sig.way.length (wayCells m.sig.way) := by
    obtain ⟨fuel, hf⟩ := h0
    obtain ⟨m, a1, c1, a2, c2, e, h⟩ := open_memo (cs := ca.toList) hf
    exact ⟨m, a1, c1, a2, c2, by rw [← e], h⟩
  obtain ⟨a0, len0, cap0, rfl⟩ := okWide_slice Try.underlying22 (hval 1 22 v1 rfl rfl)
  have k1 := h1
  have lt1 : ∀ x ∈ p1, x.block < W.heap.size := by obtain ⟨m, hm⟩ := k1; exact DataW.trod_lt m _ _ _ hm
  obtain ⟨z0, w0⟩ : ∃ zs, IsRow .u8 W a0 len0 cap0 zs := by
    obtain ⟨fuel, hf⟩ := h1
    rcases open_ints Try.underlying22 Try.underlying5 (by kernel_rfl) hf with ⟨hcs, _⟩ | ⟨x, l, c, zs, hcs, _, hl, hm, hz, _, hcell, hwz⟩
    · simp [Value.cells] at hcs
      obtain ⟨rfl, rfl, rfl⟩ := hcs
      exact ⟨[], .inl ⟨rfl, rfl, rfl, rfl⟩⟩
    · simp [Value.cells] at hcs
      obtain ⟨rfl, rfl, rfl⟩ := hcs
      exact ⟨zs, .inr ⟨_, rfl, hl, hm, by simpa using hz, hcell, hwz⟩⟩
  clear hA0 hval0
  refine (walk m hok a1 c1 a2 c2 a0 len0 cap0 z0 W ht hw w0).mono fun e W' ⟨he, bel⟩ => ?_
  subst he
  exact ⟨_, rfl, _, _, _, [], _, [], hW', trodAll_mk1 (shut_bool Try.underlying4 _), (trodAll_cons_mk (Below.trod laidOut (by kernel_rfl) (of_decide_eq_true (by kernel_rfl)) k0 bel lt0) (trodAll_cons_mk (Below.trod laidOut (by kernel_rfl) (of_decide_eq_true (by kernel_rfl)) k1 bel lt1) trodAll_mk0)), rfl, bel.frame _, fun h => by cases h⟩

theorem over : Rows.memoBackRow.holds Try.pinned (OpenSpec.ofChange Rows.memoBackSpec) :=
  OpenClaim.holds_of_wide 4 Try.f4 rfl rfl rfl rfl rfl rfl rfl ⟨rfl, rfl, rfl, rfl, rfl⟩ rfl rfl rfl rfl rfl (by kernel_rfl) Try.func4 (by kernel_rfl)
    (of_decide_eq_true (by kernel_rfl)) (by unfold Func.isWrapper; first | (rw [if_pos (by decide +kernel)]; kernel_rfl) | (rw [if_neg (by decide +kernel)]; exact ⟨rfl, rfl⟩))
    (fun os started H enc _ => lifted os started H enc)

/-- ████ THE STATEMENT ████ -/
theorem proved : Rows.MemoBackSaid := over
#print axioms proved
end Go.Proofs.Ytjgphbdffhmmgaa.memoBack
