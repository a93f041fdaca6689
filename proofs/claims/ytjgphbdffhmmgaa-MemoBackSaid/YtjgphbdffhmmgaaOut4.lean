/-
  A payment's way laid to bytes by the document.
-/
import Derived.Test.YtjgphbdffhmmgaaOut2
import Derived.Test.YtjgphbdffhmmgaaOut3
namespace Go.Proofs.Ytjgphbdffhmmgaa
set_option linter.unusedSimpArgs false
set_option linter.unusedVariables false
open Go Go.RowKit
set_option maxRecDepth 100000
set_option maxHeartbeats 2000000

theorem CellsAt.at {w : World} {g off : Nat} {vs : List Value} (h : CellsAt w ⟨g, off, none⟩ vs) (j : Nat) {v : Value} (hv : vs[j]? = some v) : w.cell? ⟨g, off + j, none⟩ = some v := by
  have := h j v hv
  rwa [add_zero] at this

theorem RowR.cellsAll {w0 : World} {size : Nat} {a : Option Addr} {m c : Nat} {xs : List Value} (h : RowR w0 size (.slice a m c) m xs) (k : Nat) (hk : k < m) :
    ∃ g off, a = some ⟨g, off, none⟩ ∧ ∀ w L, St w0 [] w L → CellsAt w ⟨g, off + k * size, none⟩ ((xs.drop (k * size)).take size) := by
  obtain ⟨g, off, rfl, _⟩ := h.cellsAt k hk
  refine ⟨g, off, rfl, fun w L hS => ?_⟩
  obtain ⟨g', off', e, h2⟩ := (h.st0 hS).cellsAt k hk
  simp only [Option.some.injEq, Addr.mk.injEq] at e
  obtain ⟨rfl, rfl, _⟩ := e
  exact h2

theorem rtrail_ok (u : Value) (l : List UInt8) (v : Value) (hs : List Hop) (w : World) (hu : RowR w 1 u l.length (bs l)) (hv : RowR w 3 v hs.length (hopCells hs))
    (hn : ∀ h, h ∈ hs → h.Ok) (hl : l.length ≤ 50000000) (hl2 : hs.length ≤ 100) :
    Calls Try.prog 15 #[u, v] w (OPost w none (l ++ layTrail hs)) := by
  have hS := St.nil w
  obtain ⟨a1, c1, rfl⟩ := hv.isSl
  obtain ⟨a0, c0, rfl⟩ := hu.isSl
  have Hv := Lib.hid hv
  have Hn := Lib.hid hn
  have Hu := Lib.hid hu
  have h63 : 0 + l.length ≤ maxLen := by unfold maxLen; omega
  have hby : (0 + l.length) * 1 ≤ 140737488355328 := by omega
  have h63b : l.length + 1 ≤ maxLen := by unfold maxLen; omega
  have hbyb : (l.length + 1) * 1 ≤ 140737488355328 := by omega
  clear hu hn hv
  go_enter Try.func15, Try.ntmps15
  go_wp2_with (first
    | ((with_reducible show wpList _ _ _ (Oper.mk (some 6) (Op.buildSlice _ _ _) _ _ _ _ :: _) _ _); refine wpl rfl ?_; refine owp_bslice0 hS rfl ?_; clear hS; intro g1 w1 hS; try simp only [List.cons_append, List.nil_append, List.append_nil, List.set_cons_zero, List.set_cons_succ] at hS)
    | ((with_reducible show wpList _ _ _ (Oper.mk (some 12) (Op.buildSlice _ _ _) _ _ _ _ :: _) _ _); refine wpl rfl ?_; refine owp_bslice1 (vs := [.int .u8 _]) hS rfl rfl (by rfl) (by decide) ?_; clear hS; intro g2 w1 hS; try simp only [List.cons_append, List.nil_append, List.append_nil, List.set_cons_zero, List.set_cons_succ] at hS)
    | ((with_reducible show wpList _ _ _ (Oper.mk (some 8) (Op.call (Call.mk (Callee.builtin Builtin.append) _ _)) _ _ _ _ :: _) _ _); refine wpl rfl ?_; refine owp_append hS 0 rfl rfl rfl (RowV.lit 5 1 _ 0 [] rfl (Nat.zero_le _)) rfl (Hu.out.st0 hS) (bs_one _) h63 hby ?_; clear hS; intro v' x'' w2 hrow hS _; obtain ⟨a2, c2, rfl⟩ := hrow.isSl; simp only [Nat.zero_add, List.nil_append] at hrow; try simp only [List.cons_append, List.nil_append, List.append_nil, List.set_cons_zero, List.set_cons_succ] at hS)
    | ((with_reducible show wpList _ _ _ (Oper.mk (some 13) (Op.call (Call.mk (Callee.builtin Builtin.append) _ _)) _ _ _ _ :: _) _ _); refine wpl rfl ?_; refine owp_append hS 0 rfl rfl rfl hrow rfl ((RowV.lit 5 1 g2 1 [.int .u8 _] rfl (by decide)).read (hS.get 1 rfl)) (by intro x hx; simp at hx; subst hx; rfl) h63b hbyb ?_; clear hS hrow; intro v' x'' w2 hrow hS _; obtain ⟨a3, c3, rfl⟩ := hrow.isSl; try simp only [List.cons_append, List.nil_append, List.append_nil, List.set_cons_zero, List.set_cons_succ] at hS))
  replace hS := hS.pick [0] (L' := [_]) rfl (by decide)
  have Hlay := Lib.hid (show l ++ layTrail hs = (l ++ [UInt8.ofNat hs.length]) ++ hs.flatMap layHop by simp [layTrail])
  have hl1 : (l ++ [UInt8.ofNat hs.length]).length ≤ 60000000 := by simp; omega
  have hlen1 : (l ++ [UInt8.ofNat hs.length]).length = l.length + 1 := by simp
  rw [← B_small hs.length (by omega), ← bs_append, ← hlen1] at hrow
  rw [← hlen1]
  generalize l ++ [UInt8.ofNat hs.length] = l1 at *
  go_loopw [0, 5] (fun o i wr => ∃ (j : Nat) (x' : Ent), j ≤ hs.length ∧ i = .int .i64 j ∧ RowV 5 1 o (l1 ++ (hs.take j).flatMap layHop).length (bs (l1 ++ (hs.take j).flatMap layHop)) x' ∧ St w [] wr [x']) (fun _ i _ => hs.length - (intOf i).toNat)
  case atStart => exact ⟨0, x'', Nat.zero_le _, rfl, by simpa using hrow, hS⟩
  case round =>
    clear hS hrow
    obtain ⟨j, x', hj, rfl, hrow, hS⟩ := hrel
    obtain ⟨a0, c0, rfl⟩ := hrow.isSl
    by_cases hlt : j < hs.length
    · obtain ⟨g, off, rfl, hcs⟩ := Hv.out.cellsAll j hlt
      rw [hopCells_drop hs j hlt] at hcs
      have hlen : (l1 ++ (hs.take j).flatMap layHop).length ≤ 70000000 := by
        rw [List.length_append, layHops_length, List.length_take]; omega
      have Hstep := Lib.hid (show l1 ++ (hs.take (j + 1)).flatMap layHop = ((l1 ++ (hs.take j).flatMap layHop) ++ enc 4 hs[j].channel) ++ enc 8 hs[j].amount ++ enc 8 hs[j].id by
        rw [layHops_succ hs j hlt]; simp [layHop, List.append_assoc])
      have hok := Hn.out _ (List.getElem_mem hlt)
      generalize hs[j] = h at *
      generalize l1 ++ (hs.take j).flatMap layHop = l2 at *
      have hn1 : h.channel < 4294967296 := hok.1
      have hn1' : h.channel < 2 ^ 64 := by omega
      have hn2 := hok.2.1
      have hn3 := hok.2.2
      have Hs := Lib.hid (fun w' L (hS : St w [] w' L) => show w'.cell? ⟨g, off + j * 3, none⟩ = some (.int .u32 h.channel) ∧ w'.cell? ⟨g, off + j * 3 + 1, none⟩ = some (.int .u64 h.amount) ∧ w'.cell? ⟨g, off + j * 3 + 2, none⟩ = some (.int .u64 h.id) from
        ⟨(hcs w' L hS).at 0 rfl, (hcs w' L hS).at 1 rfl, (hcs w' L hS).at 2 rfl⟩)
      have Hl2 := Lib.hid (show (l2 ++ enc 4 h.channel).length ≤ 1000000000 by rw [List.length_append, enc_length]; omega)
      have Hl3 := Lib.hid (show ((l2 ++ enc 4 h.channel) ++ enc 8 h.amount).length ≤ 1000000000 by rw [List.length_append, List.length_append, enc_length, enc_length]; omega)
      clear hcs hok
      have hw : IntKind.u64.wrap (h.channel : Int) = h.channel := by rw [IntKind.wrap_u64]; omega
      have hi1 : (0 : Int) ≤ j := by omega
      have hi2 : (j : Int) < hs.length := by omega
      go_wp2_with fail
      replace hS := hS.drew
      refine wp_region_held_drew (S := (fun w' => w'.cell? ⟨g, off + j * 3, none⟩ = some (.int .u32 h.channel) ∧ w'.cell? ⟨g, off + j * 3 + 1, none⟩ = some (.int .u64 h.amount) ∧ w'.cell? ⟨g, off + j * 3 + 2, none⟩ = some (.int .u64 h.id))) (by kernel_rfl) (Hs.out _ _ hS) (fun hHeld => ?_)
      refine htake (i := 0) (v := (.slice a0 l2.length c0)) rfl (by kernel_rfl) (by kernel_rfl) (by kernel_rfl) (fun _ _ _ h => h) (Or.inl ⟨by rfl, by (intro w hSw; (try dsimp only at hSw); (try obtain ⟨h1, h2, h3⟩ := hSw); go_simp; try with_reducible rfl)⟩) (by assumption) ?_; simp only [Act.put, List.setIfInBounds_toArray, List.set_cons_succ, List.set_cons_zero]
      refine htake (i := 1) (v := (.slice (some ⟨g, off, none⟩) hs.length c1)) rfl (by kernel_rfl) (by kernel_rfl) (by kernel_rfl) (fun _ _ _ h => h) (Or.inl ⟨by rfl, by (intro w hSw; (try dsimp only at hSw); (try obtain ⟨h1, h2, h3⟩ := hSw); go_simp; try with_reducible rfl)⟩) (by assumption) ?_; simp only [Act.put, List.setIfInBounds_toArray, List.set_cons_succ, List.set_cons_zero]
      refine htake (i := 2) (v := (.int .i64 j)) rfl (by kernel_rfl) (by kernel_rfl) (by kernel_rfl) (fun _ _ _ h => h) (Or.inl ⟨by rfl, by (intro w hSw; (try dsimp only at hSw); (try obtain ⟨h1, h2, h3⟩ := hSw); go_simp; try with_reducible rfl)⟩) (by assumption) ?_; simp only [Act.put, List.setIfInBounds_toArray, List.set_cons_succ, List.set_cons_zero]
      refine htake (i := 3) (v := (.pointer (some ⟨g, off + j * 3, none⟩))) rfl (by kernel_rfl) (by kernel_rfl) (by kernel_rfl) (fun _ _ _ h => h) (Or.inl ⟨by rfl, by (intro w hSw; (try dsimp only at hSw); (try obtain ⟨h1, h2, h3⟩ := hSw); go_simp; try with_reducible rfl)⟩) (by assumption) ?_; simp only [Act.put, List.setIfInBounds_toArray, List.set_cons_succ, List.set_cons_zero]
      refine htake (i := 4) (v := (.pointer (some ⟨g, off + j * 3, none⟩))) rfl (by kernel_rfl) (by kernel_rfl) (by kernel_rfl) (fun _ _ _ h => h) (Or.inl ⟨by rfl, by (intro w hSw; (try dsimp only at hSw); (try obtain ⟨h1, h2, h3⟩ := hSw); go_simp; try with_reducible rfl)⟩) (by assumption) ?_; simp only [Act.put, List.setIfInBounds_toArray, List.set_cons_succ, List.set_cons_zero]
      refine htake (i := 5) (v := (.int .u32 h.channel)) rfl (by kernel_rfl) (by kernel_rfl) (by kernel_rfl) (fun _ _ _ h => h) (Or.inl ⟨by rfl, by (intro w hSw; (try dsimp only at hSw); (try obtain ⟨h1, h2, h3⟩ := hSw); go_simp; try with_reducible rfl)⟩) (by assumption) ?_; simp only [Act.put, List.setIfInBounds_toArray, List.set_cons_succ, List.set_cons_zero]
      refine htake (i := 6) (v := (.int .u64 h.channel)) rfl (by kernel_rfl) (by kernel_rfl) (by kernel_rfl) (fun _ _ _ h => h) (Or.inl ⟨by rfl, by (intro w hSw; (try dsimp only at hSw); (try obtain ⟨h1, h2, h3⟩ := hSw); go_simp; try with_reducible rfl)⟩) (by assumption) ?_; simp only [Act.put, List.setIfInBounds_toArray, List.set_cons_succ, List.set_cons_zero]
      refine htake (i := 8) (v := (.slice (some ⟨g, off, none⟩) hs.length c1)) rfl (by kernel_rfl) (by kernel_rfl) (by kernel_rfl) (fun _ _ _ h => h) (Or.inl ⟨by rfl, by (intro w hSw; (try dsimp only at hSw); (try obtain ⟨h1, h2, h3⟩ := hSw); go_simp; try with_reducible rfl)⟩) (by assumption) ?_; simp only [Act.put, List.setIfInBounds_toArray, List.set_cons_succ, List.set_cons_zero]
      refine htake (i := 9) (v := (.int .i64 j)) rfl (by kernel_rfl) (by kernel_rfl) (by kernel_rfl) (fun _ _ _ h => h) (Or.inl ⟨by rfl, by (intro w hSw; (try dsimp only at hSw); (try obtain ⟨h1, h2, h3⟩ := hSw); go_simp; try with_reducible rfl)⟩) (by assumption) ?_; simp only [Act.put, List.setIfInBounds_toArray, List.set_cons_succ, List.set_cons_zero]
      refine htake (i := 10) (v := (.pointer (some ⟨g, off + j * 3, none⟩))) rfl (by kernel_rfl) (by kernel_rfl) (by kernel_rfl) (fun _ _ _ h => h) (Or.inl ⟨by rfl, by (intro w hSw; (try dsimp only at hSw); (try obtain ⟨h1, h2, h3⟩ := hSw); go_simp; try with_reducible rfl)⟩) (by assumption) ?_; simp only [Act.put, List.setIfInBounds_toArray, List.set_cons_succ, List.set_cons_zero]
      refine htake (i := 11) (v := (.pointer (some ⟨g, off + j * 3 + 1, none⟩))) rfl (by kernel_rfl) (by kernel_rfl) (by kernel_rfl) (fun _ _ _ h => h) (Or.inl ⟨by rfl, by (intro w hSw; (try dsimp only at hSw); (try obtain ⟨h1, h2, h3⟩ := hSw); go_simp; try with_reducible rfl)⟩) (by assumption) ?_; simp only [Act.put, List.setIfInBounds_toArray, List.set_cons_succ, List.set_cons_zero]
      refine htake (i := 12) (v := (.int .u64 h.amount)) rfl (by kernel_rfl) (by kernel_rfl) (by kernel_rfl) (fun _ _ _ h => h) (Or.inl ⟨by rfl, by (intro w hSw; (try dsimp only at hSw); (try obtain ⟨h1, h2, h3⟩ := hSw); go_simp; try with_reducible rfl)⟩) (by assumption) ?_; simp only [Act.put, List.setIfInBounds_toArray, List.set_cons_succ, List.set_cons_zero]
      refine htake (i := 14) (v := (.slice (some ⟨g, off, none⟩) hs.length c1)) rfl (by kernel_rfl) (by kernel_rfl) (by kernel_rfl) (fun _ _ _ h => h) (Or.inl ⟨by rfl, by (intro w hSw; (try dsimp only at hSw); (try obtain ⟨h1, h2, h3⟩ := hSw); go_simp; try with_reducible rfl)⟩) (by assumption) ?_; simp only [Act.put, List.setIfInBounds_toArray, List.set_cons_succ, List.set_cons_zero]
      refine htake (i := 15) (v := (.int .i64 j)) rfl (by kernel_rfl) (by kernel_rfl) (by kernel_rfl) (fun _ _ _ h => h) (Or.inl ⟨by rfl, by (intro w hSw; (try dsimp only at hSw); (try obtain ⟨h1, h2, h3⟩ := hSw); go_simp; try with_reducible rfl)⟩) (by assumption) ?_; simp only [Act.put, List.setIfInBounds_toArray, List.set_cons_succ, List.set_cons_zero]
      refine htake (i := 16) (v := (.pointer (some ⟨g, off + j * 3, none⟩))) rfl (by kernel_rfl) (by kernel_rfl) (by kernel_rfl) (fun _ _ _ h => h) (Or.inl ⟨by rfl, by (intro w hSw; (try dsimp only at hSw); (try obtain ⟨h1, h2, h3⟩ := hSw); go_simp; try with_reducible rfl)⟩) (by assumption) ?_; simp only [Act.put, List.setIfInBounds_toArray, List.set_cons_succ, List.set_cons_zero]
      refine htake (i := 17) (v := (.pointer (some ⟨g, off + j * 3 + 2, none⟩))) rfl (by kernel_rfl) (by kernel_rfl) (by kernel_rfl) (fun _ _ _ h => h) (Or.inl ⟨by rfl, by (intro w hSw; (try dsimp only at hSw); (try obtain ⟨h1, h2, h3⟩ := hSw); go_simp; try with_reducible rfl)⟩) (by assumption) ?_; simp only [Act.put, List.setIfInBounds_toArray, List.set_cons_succ, List.set_cons_zero]
      refine htake (i := 18) (v := (.int .u64 h.id)) rfl (by kernel_rfl) (by kernel_rfl) (by kernel_rfl) (fun _ _ _ h => h) (Or.inl ⟨by rfl, by (intro w hSw; (try dsimp only at hSw); (try obtain ⟨h1, h2, h3⟩ := hSw); go_simp; try with_reducible rfl)⟩) (by assumption) ?_; simp only [Act.put, List.setIfInBounds_toArray, List.set_cons_succ, List.set_cons_zero]
      refine wpAnyH_ready (rs := [7]) (by kernel_rfl) (by simp) ?_
      refine hcons rfl rfl (fun K hK => ?_) ?_
      · clear hHeld
        have hcall := rnum_ok' (.slice a0 l2.length c0) l2 h.channel 4 _ (hrow.read (hS.get 0 rfl)) (by omega) hn1' (by decide)
        refine owp_call rfl (by kernel_rfl) (args := #[.slice a0 l2.length c0, .int .u64 h.channel, .int .i64 4]) rfl hcall ?_
        clear hcall
        rintro e w5 ⟨v5, x5, rfl, hrow5, hc⟩
        replace hS := hS.call0 hc
        try simp only [List.cons_append, List.nil_append, List.append_nil, List.set_cons_zero, List.set_cons_succ] at hS
        clear hc
        obtain ⟨a5, c5, rfl⟩ := hrow5.isSl
        refine ⟨_, rfl, ?_⟩
        refine hK.out _ _ (Hs.out _ _ hS) (fun hHeld => ?_)
        clear hK K
        simp only [Act.put, List.setIfInBounds_toArray, List.set_cons_succ, List.set_cons_zero]
        refine wpAnyH_ready (rs := [13]) (by kernel_rfl) (by simp) ?_
        refine hcons rfl rfl (fun K hK => ?_) ?_
        · clear hHeld
          have hcall := rnum_ok' (.slice a5 _ c5) (l2 ++ enc 4 h.channel) h.amount 8 _ (hrow5.read (hS.get 1 rfl)) Hl2.out hn2 (by decide)
          refine owp_call rfl (by kernel_rfl) (args := #[.slice a5 _ c5, .int .u64 h.amount, .int .i64 8]) rfl hcall ?_
          clear hcall
          rintro e w6 ⟨v6, x6, rfl, hrow6, hc⟩
          replace hS := hS.call0 hc
          try simp only [List.cons_append, List.nil_append, List.append_nil, List.set_cons_zero, List.set_cons_succ] at hS
          clear hc
          obtain ⟨a6, c6, rfl⟩ := hrow6.isSl
          refine ⟨_, rfl, ?_⟩
          refine hK.out _ _ (Hs.out _ _ hS) (fun hHeld => ?_)
          clear hK K
          simp only [Act.put, List.setIfInBounds_toArray, List.set_cons_succ, List.set_cons_zero]
          refine wpAnyH_ready (rs := [19]) (by kernel_rfl) (by simp) ?_
          refine hcons rfl rfl (fun K hK => ?_) ?_
          · clear hHeld
            have hcall := rnum_ok' (.slice a6 _ c6) (l2 ++ enc 4 h.channel ++ enc 8 h.amount) h.id 8 _ (hrow6.read (hS.get 2 rfl)) Hl3.out hn3 (by decide)
            refine owp_call rfl (by kernel_rfl) (args := #[.slice a6 _ c6, .int .u64 h.id, .int .i64 8]) rfl hcall ?_
            clear hcall
            rintro e w7 ⟨v7, x7, rfl, hrow7, hc⟩
            replace hS := hS.call0 hc
            try simp only [List.cons_append, List.nil_append, List.append_nil, List.set_cons_zero, List.set_cons_succ] at hS
            clear hc
            obtain ⟨a7, c7, rfl⟩ := hrow7.isSl
            refine ⟨_, rfl, ?_⟩
            refine hK.out _ _ (Hs.out _ _ hS) (fun hHeld => ?_)
            clear hK K
            simp only [Act.put, List.setIfInBounds_toArray, List.set_cons_succ, List.set_cons_zero]
            refine htake (i := 20) (v := (.slice a7 (l2 ++ enc 4 h.channel ++ enc 8 h.amount ++ enc 8 h.id).length c7)) rfl (by kernel_rfl) (by kernel_rfl) (by kernel_rfl) (fun _ _ _ h => h) (Or.inl ⟨by rfl, by (intro w hSw; (try dsimp only at hSw); (try obtain ⟨h1, h2, h3⟩ := hSw); go_simp; try with_reducible rfl)⟩) (by assumption) ?_; simp only [Act.put, List.setIfInBounds_toArray, List.set_cons_succ, List.set_cons_zero]
            refine wpAnyH_done (by kernel_rfl) ?_ _
            clear hHeld
            go_wp2_with fail
            go_roundw
            case rel =>
              refine ⟨j + 1, x7, by omega, by go_num, ?_, hS.pick [3] rfl (by decide)⟩
              rw [Hstep.out]
              exact hrow7
            case measure => simp [intOf]; omega
          exact AllReadyH.nil
        exact AllReadyH.nil
      exact AllReadyH.nil
    · have hjk : j = hs.length := by omega
      subst hjk
      rw [List.take_length] at hrow ⊢
      generalize l1 ++ hs.flatMap layHop = l2 at *
      go_wp2_with fail
      go_ret
      refine ⟨_, x', rfl, ?_, hS⟩
      rw [Hlay.out]
      exact hrow

end Go.Proofs.Ytjgphbdffhmmgaa
