/-
  A memo's bytes, as the program lays them: an Ask's.
-/
import Derived.Test.YtjgphbdffhmmgaaOut3
import Derived.Test.YtjgphbdffhmmgaaIn12
namespace Go.Proofs.Ytjgphbdffhmmgaa
set_option linter.unusedSimpArgs false
set_option linter.unusedVariables false
open Go Go.RowKit
set_option maxRecDepth 100000
set_option maxHeartbeats 2000000

def layHead (m : Memo) : List UInt8 := [UInt8.ofNat m.kind.toNat] ++ enc 4 m.channel
theorem layHead_length (m : Memo) : (layHead m).length = 5 := by simp [layHead, enc_length]

def BytesPost (w : World) (l : List UInt8) (e : Ending) (w' : World) : Prop :=
  ∃ v x, e = .returned (.tuple #[v, .int .i64 0]) ∧ RowV 5 1 v l.length (bs l) x ∧ St w [] w' [x]


theorem bytesAsk_ok (m : Memo) (cs : List Value) (a0 c0 a1 c1) (hm : m.At cs (.slice a0 m.trail.length c0) (.slice a1 m.sig.way.length c1)) (w : World)
    (hk : m.kind = 0) (hr : m.right = true) (hch : m.channel < 2 ^ 32) :
    Calls Try.prog 18 #[.agg cs.toArray] w (BytesPost w (layHead m)) := by
  have hS := St.nil w
  have Hm := Lib.hid hm
  have hk0 : 0 ≤ m.kind := by omega
  have hk255 : m.kind < 256 := by omega
  have Hk := Lib.hid hk
  clear hk
  go_enter Try.func18, Try.ntmps18
  go_wp2_with (first
    | ((with_reducible show wpList _ _ _ (Oper.mk _ (Op.box _ _) _ _ _ _ :: _) _ _); refine wpl rfl ?_; refine owp_box hS rfl (vs := cs) rfl ?_; clear hS; intro gm _ hS; try simp only [List.cons_append, List.nil_append, List.append_nil, List.set_cons_zero, List.set_cons_succ] at hS)
    | ((with_reducible show wpList _ _ _ (Oper.mk _ (Op.load _ _) _ _ _ _ :: _) _ _); refine wpl rfl ?_; refine (owp_loadW hS 0 rfl rfl rfl (Hm.out.len) ?_)))
  refine (right_ok m cs a0 c0 a1 c1 hm _).mono ?_
  rintro e w2 ⟨rfl, hc⟩
  rw [hr]
  replace hS := hS.call0 hc
  try simp only [List.cons_append, List.nil_append, List.append_nil, List.set_cons_zero, List.set_cons_succ] at hS
  clear hc
  go_upto_region 3 with fail
  -- here: at region 3, hS at [gm]
  go_cut [4] (fun o wr => ∃ x, RowV 5 1 o 5 (bs (layHead m)) x ∧ St w [] wr [some (gm, cs, 43), x])
  case first =>
    have hk1 : m.kind % 256 = m.kind := by omega
    have hwk : IntKind.u8.wrap m.kind = m.kind := by rw [IntKind.wrap_u8]; omega
    have hb : bs [UInt8.ofNat m.kind.toNat] = [.int .u8 m.kind] := by
      rw [B_small _ (by omega), Int.toNat_of_nonneg hk0]
    have Hb := Lib.hid hb
    have H4 := Lib.hid (show ∀ n, n ∈ [m.channel] → n < 2 ^ 32 by intro n hn; simp only [List.mem_singleton] at hn; subst hn; exact hch)
    clear hb
    replace hS := hS.drew
    refine wp_region_held_drew (S := (fun w' => w'.cell? ⟨gm, 0, none⟩ = some (.int .i64 m.kind) ∧ w'.cell? ⟨gm, 1, none⟩ = some (.int .u32 m.channel))) (by kernel_rfl) ⟨(hS.get 0 rfl).cell 0 Hm.out.g0, (hS.get 0 rfl).cell 1 Hm.out.g1⟩ (fun hHeld => ?_)
    refine htake (i := 1) (v := (.pointer (some ⟨gm, 0, none⟩))) rfl (by kernel_rfl) (by kernel_rfl) (by kernel_rfl) (fun _ _ _ h => h) (Or.inl ⟨by rfl, by (intro w hSw; (try dsimp only at hSw); (try obtain ⟨h1, h2⟩ := hSw); go_simp; try with_reducible rfl)⟩) (by assumption) ?_; simp only [Act.put, List.setIfInBounds_toArray, List.set_cons_succ, List.set_cons_zero]
    refine htake (i := 2) (v := (.int .i64 m.kind)) rfl (by kernel_rfl) (by kernel_rfl) (by kernel_rfl) (fun _ _ _ h => h) (Or.inl ⟨by rfl, by (intro w hSw; (try dsimp only at hSw); (try obtain ⟨h1, h2⟩ := hSw); go_simp; try with_reducible rfl)⟩) (by assumption) ?_; simp only [Act.put, List.setIfInBounds_toArray, List.set_cons_succ, List.set_cons_zero]
    refine htake (i := 3) (v := (.int .u8 m.kind)) rfl (by kernel_rfl) (by kernel_rfl) (by kernel_rfl) (fun _ _ _ h => h) (Or.inl ⟨by rfl, by (intro w hSw; (try dsimp only at hSw); (try obtain ⟨h1, h2⟩ := hSw); go_simp; try with_reducible rfl)⟩) (by assumption) ?_; simp only [Act.put, List.setIfInBounds_toArray, List.set_cons_succ, List.set_cons_zero]
    refine htake (i := 6) (v := (.pointer (some ⟨gm, 1, none⟩))) rfl (by kernel_rfl) (by kernel_rfl) (by kernel_rfl) (fun _ _ _ h => h) (Or.inl ⟨by rfl, by (intro w hSw; (try dsimp only at hSw); (try obtain ⟨h1, h2⟩ := hSw); go_simp; try with_reducible rfl)⟩) (by assumption) ?_; simp only [Act.put, List.setIfInBounds_toArray, List.set_cons_succ, List.set_cons_zero]
    refine htake (i := 7) (v := (.int .u32 m.channel)) rfl (by kernel_rfl) (by kernel_rfl) (by kernel_rfl) (fun _ _ _ h => h) (Or.inl ⟨by rfl, by (intro w hSw; (try dsimp only at hSw); (try obtain ⟨h1, h2⟩ := hSw); go_simp; try with_reducible rfl)⟩) (by assumption) ?_; simp only [Act.put, List.setIfInBounds_toArray, List.set_cons_succ, List.set_cons_zero]
    refine wpAnyH_ready (rs := [0, 4, 8]) (by kernel_rfl) (by simp) ?_
    refine hcons rfl rfl (fun K hK => ?_) ?_
    · clear hHeld
      refine owp_bslice0 hS rfl ?_
      clear hS; intro go _ hS; try simp only [List.cons_append, List.nil_append, List.append_nil, List.set_cons_zero, List.set_cons_succ] at hS
      refine hK.out _ _ ⟨(hS.get 0 rfl).cell 0 Hm.out.g0, (hS.get 0 rfl).cell 1 Hm.out.g1⟩ (fun hHeld => ?_)
      clear hK K
      simp only [Act.put, List.setIfInBounds_toArray, List.set_cons_succ, List.set_cons_zero]
      refine wpAnyH_ready (rs := [4, 8]) (by kernel_rfl) (by simp) ?_
      refine hcons rfl rfl (fun K hK => ?_) ?_
      · clear hHeld
        refine owp_bslice1 (vs := [.int .u8 _]) hS rfl rfl (by rfl) (by decide) ?_
        clear hS; intro gk _ hS; try simp only [List.cons_append, List.nil_append, List.append_nil, List.set_cons_zero, List.set_cons_succ] at hS
        refine hK.out _ _ ⟨(hS.get 0 rfl).cell 0 Hm.out.g0, (hS.get 0 rfl).cell 1 Hm.out.g1⟩ (fun hHeld => ?_)
        clear hK K
        simp only [Act.put, List.setIfInBounds_toArray, List.set_cons_succ, List.set_cons_zero]
        refine wpAnyH_ready (rs := [5, 8]) (by kernel_rfl) (by simp) ?_
        refine hcons rfl rfl (fun K hK => ?_) ?_
        · clear hHeld
          rw [← Hb.out] at hS
          have hcall := oone_ok _ (.slice (some ⟨go, 0, none⟩) 0 0) [] (.slice (some ⟨gk, 0, none⟩) 1 1) [UInt8.ofNat m.kind.toNat] _ (hS.get 1 rfl) (RowV.lit 5 1 _ 0 [] rfl (Nat.zero_le _)) ((RowV.lit 5 1 gk 1 _ rfl (by decide)).read (hS.get 2 rfl)) (by simp)
          refine owp_call rfl (by kernel_rfl) (args := #[.slice (some ⟨go, 0, none⟩) 0 0, .slice (some ⟨gk, 0, none⟩) 1 1]) rfl hcall ?_
          clear hcall
          rintro e w5 ⟨v5, x5, rfl, hrow5, hc⟩
          rw [List.nil_append, show ([UInt8.ofNat m.kind.toNat] : List UInt8).length = 1 from rfl] at hrow5
          replace hS := hS.call1 (N := []) 1 rfl hc
          try simp only [List.cons_append, List.nil_append, List.append_nil, List.set_cons_zero, List.set_cons_succ] at hS
          clear hc
          obtain ⟨a5, c5, rfl⟩ := hrow5.isSl
          refine ⟨_, rfl, ?_⟩
          refine hK.out _ _ ⟨(hS.get 0 rfl).cell 0 Hm.out.g0, (hS.get 0 rfl).cell 1 Hm.out.g1⟩ (fun hHeld => ?_)
          clear hK K
          simp only [Act.put, List.setIfInBounds_toArray, List.set_cons_succ, List.set_cons_zero]
          refine wpAnyH_ready (rs := [8]) (by kernel_rfl) (by simp) ?_
          refine hcons rfl rfl (fun K hK => ?_) ?_
          · clear hHeld
            refine owp_bslice1 (vs := [.int .u32 _]) hS rfl rfl (by rfl) (by decide) ?_
            clear hS; intro gc _ hS; try simp only [List.cons_append, List.nil_append, List.append_nil, List.set_cons_zero, List.set_cons_succ] at hS
            refine hK.out _ _ ⟨(hS.get 0 rfl).cell 0 Hm.out.g0, (hS.get 0 rfl).cell 1 Hm.out.g1⟩ (fun hHeld => ?_)
            clear hK K
            simp only [Act.put, List.setIfInBounds_toArray, List.set_cons_succ, List.set_cons_zero]
            refine wpAnyH_ready (rs := [9]) (by kernel_rfl) (by simp) ?_
            refine hcons rfl rfl (fun K hK => ?_) ?_
            · clear hHeld
              have hcall := ofour_ok x5 (.slice a5 1 c5) [UInt8.ofNat m.kind.toNat] (.slice (some ⟨gc, 0, none⟩) 1 1) [m.channel] _ (hS.get 1 rfl) hrow5 ((RowV.lit 24 1 gc 1 [.int .u32 m.channel] rfl (by decide)).read (hS.get 3 rfl)) (hS.apart 1 3 rfl rfl (by decide)) H4.out (by simp) (by simp)
              refine owp_call rfl (by kernel_rfl) (args := #[.slice a5 1 c5, .slice (some ⟨gc, 0, none⟩) 1 1]) rfl hcall ?_
              clear hcall
              rintro e w6 ⟨v6, x6, rfl, hrow6, hc⟩
              rw [fours_one, show ([UInt8.ofNat m.kind.toNat] ++ enc 4 m.channel).length = 5 by rw [List.length_append, enc_length]; rfl] at hrow6
              replace hS := hS.call1 (N := []) 1 rfl hc
              try simp only [List.cons_append, List.nil_append, List.append_nil, List.set_cons_zero, List.set_cons_succ] at hS
              clear hc
              obtain ⟨a6, c6, rfl⟩ := hrow6.isSl
              refine ⟨_, rfl, ?_⟩
              refine hK.out _ _ ⟨(hS.get 0 rfl).cell 0 Hm.out.g0, (hS.get 0 rfl).cell 1 Hm.out.g1⟩ (fun hHeld => ?_)
              clear hK K
              simp only [Act.put, List.setIfInBounds_toArray, List.set_cons_succ, List.set_cons_zero]
              refine htake (i := 10) (v := (.slice a6 5 c6)) rfl (by kernel_rfl) (by kernel_rfl) (by kernel_rfl) (fun _ _ _ h => h) (Or.inl ⟨by rfl, by (intro w hSw; (try dsimp only at hSw); (try obtain ⟨h1, h2⟩ := hSw); go_simp; try with_reducible rfl)⟩) (by assumption) ?_; simp only [Act.put, List.setIfInBounds_toArray, List.set_cons_succ, List.set_cons_zero]
              refine wpAnyH_done (by kernel_rfl) ?_ _
              clear hHeld
              go_wp2_with fail
              go_meet
              exact ⟨x6, hrow6, hS.pick [0, 1] rfl (by decide)⟩
            exact AllReadyH.nil
          exact AllReadyH.nil
        refine hcons rfl rfl (fun K hK => ?_) ?_
        · clear hHeld
          refine owp_bslice1 (vs := [.int .u32 _]) hS rfl rfl (by rfl) (by decide) ?_
          clear hS; intro gc _ hS; try simp only [List.cons_append, List.nil_append, List.append_nil, List.set_cons_zero, List.set_cons_succ] at hS
          refine hK.out _ _ ⟨(hS.get 0 rfl).cell 0 Hm.out.g0, (hS.get 0 rfl).cell 1 Hm.out.g1⟩ (fun hHeld => ?_)
          clear hK K
          simp only [Act.put, List.setIfInBounds_toArray, List.set_cons_succ, List.set_cons_zero]
          refine wpAnyH_ready (rs := [5]) (by kernel_rfl) (by simp) ?_
          refine hcons rfl rfl (fun K hK => ?_) ?_
          · clear hHeld
            rw [← Hb.out] at hS
            have hcall := oone_ok _ (.slice (some ⟨go, 0, none⟩) 0 0) [] (.slice (some ⟨gk, 0, none⟩) 1 1) [UInt8.ofNat m.kind.toNat] _ (hS.get 1 rfl) (RowV.lit 5 1 _ 0 [] rfl (Nat.zero_le _)) ((RowV.lit 5 1 gk 1 _ rfl (by decide)).read (hS.get 2 rfl)) (by simp)
            refine owp_call rfl (by kernel_rfl) (args := #[.slice (some ⟨go, 0, none⟩) 0 0, .slice (some ⟨gk, 0, none⟩) 1 1]) rfl hcall ?_
            clear hcall
            rintro e w5 ⟨v5, x5, rfl, hrow5, hc⟩
            rw [List.nil_append, show ([UInt8.ofNat m.kind.toNat] : List UInt8).length = 1 from rfl] at hrow5
            replace hS := hS.call1 (N := []) 1 rfl hc
            try simp only [List.cons_append, List.nil_append, List.append_nil, List.set_cons_zero, List.set_cons_succ] at hS
            clear hc
            obtain ⟨a5, c5, rfl⟩ := hrow5.isSl
            refine ⟨_, rfl, ?_⟩
            refine hK.out _ _ ⟨(hS.get 0 rfl).cell 0 Hm.out.g0, (hS.get 0 rfl).cell 1 Hm.out.g1⟩ (fun hHeld => ?_)
            clear hK K
            simp only [Act.put, List.setIfInBounds_toArray, List.set_cons_succ, List.set_cons_zero]
            refine wpAnyH_ready (rs := [9]) (by kernel_rfl) (by simp) ?_
            refine hcons rfl rfl (fun K hK => ?_) ?_
            · clear hHeld
              have hcall := ofour_ok x5 (.slice a5 1 c5) [UInt8.ofNat m.kind.toNat] (.slice (some ⟨gc, 0, none⟩) 1 1) [m.channel] _ (hS.get 1 rfl) hrow5 ((RowV.lit 24 1 gc 1 [.int .u32 m.channel] rfl (by decide)).read (hS.get 3 rfl)) (hS.apart 1 3 rfl rfl (by decide)) H4.out (by simp) (by simp)
              refine owp_call rfl (by kernel_rfl) (args := #[.slice a5 1 c5, .slice (some ⟨gc, 0, none⟩) 1 1]) rfl hcall ?_
              clear hcall
              rintro e w6 ⟨v6, x6, rfl, hrow6, hc⟩
              rw [fours_one, show ([UInt8.ofNat m.kind.toNat] ++ enc 4 m.channel).length = 5 by rw [List.length_append, enc_length]; rfl] at hrow6
              replace hS := hS.call1 (N := []) 1 rfl hc
              try simp only [List.cons_append, List.nil_append, List.append_nil, List.set_cons_zero, List.set_cons_succ] at hS
              clear hc
              obtain ⟨a6, c6, rfl⟩ := hrow6.isSl
              refine ⟨_, rfl, ?_⟩
              refine hK.out _ _ ⟨(hS.get 0 rfl).cell 0 Hm.out.g0, (hS.get 0 rfl).cell 1 Hm.out.g1⟩ (fun hHeld => ?_)
              clear hK K
              simp only [Act.put, List.setIfInBounds_toArray, List.set_cons_succ, List.set_cons_zero]
              refine htake (i := 10) (v := (.slice a6 5 c6)) rfl (by kernel_rfl) (by kernel_rfl) (by kernel_rfl) (fun _ _ _ h => h) (Or.inl ⟨by rfl, by (intro w hSw; (try dsimp only at hSw); (try obtain ⟨h1, h2⟩ := hSw); go_simp; try with_reducible rfl)⟩) (by assumption) ?_; simp only [Act.put, List.setIfInBounds_toArray, List.set_cons_succ, List.set_cons_zero]
              refine wpAnyH_done (by kernel_rfl) ?_ _
              clear hHeld
              go_wp2_with fail
              go_meet
              exact ⟨x6, hrow6, hS.pick [0, 1] rfl (by decide)⟩
            exact AllReadyH.nil
          exact AllReadyH.nil
        exact AllReadyH.nil
      refine hcons rfl rfl (fun K hK => ?_) ?_
      · clear hHeld
        refine owp_bslice1 (vs := [.int .u32 _]) hS rfl rfl (by rfl) (by decide) ?_
        clear hS; intro gc _ hS; try simp only [List.cons_append, List.nil_append, List.append_nil, List.set_cons_zero, List.set_cons_succ] at hS
        refine hK.out _ _ ⟨(hS.get 0 rfl).cell 0 Hm.out.g0, (hS.get 0 rfl).cell 1 Hm.out.g1⟩ (fun hHeld => ?_)
        clear hK K
        simp only [Act.put, List.setIfInBounds_toArray, List.set_cons_succ, List.set_cons_zero]
        refine wpAnyH_ready (rs := [4]) (by kernel_rfl) (by simp) ?_
        refine hcons rfl rfl (fun K hK => ?_) ?_
        · clear hHeld
          refine owp_bslice1 (vs := [.int .u8 _]) hS rfl rfl (by rfl) (by decide) ?_
          clear hS; intro gk _ hS; try simp only [List.cons_append, List.nil_append, List.append_nil, List.set_cons_zero, List.set_cons_succ] at hS
          refine hK.out _ _ ⟨(hS.get 0 rfl).cell 0 Hm.out.g0, (hS.get 0 rfl).cell 1 Hm.out.g1⟩ (fun hHeld => ?_)
          clear hK K
          simp only [Act.put, List.setIfInBounds_toArray, List.set_cons_succ, List.set_cons_zero]
          refine wpAnyH_ready (rs := [5]) (by kernel_rfl) (by simp) ?_
          refine hcons rfl rfl (fun K hK => ?_) ?_
          · clear hHeld
            rw [← Hb.out] at hS
            have hcall := oone_ok _ (.slice (some ⟨go, 0, none⟩) 0 0) [] (.slice (some ⟨gk, 0, none⟩) 1 1) [UInt8.ofNat m.kind.toNat] _ (hS.get 1 rfl) (RowV.lit 5 1 _ 0 [] rfl (Nat.zero_le _)) ((RowV.lit 5 1 gk 1 _ rfl (by decide)).read (hS.get 3 rfl)) (by simp)
            refine owp_call rfl (by kernel_rfl) (args := #[.slice (some ⟨go, 0, none⟩) 0 0, .slice (some ⟨gk, 0, none⟩) 1 1]) rfl hcall ?_
            clear hcall
            rintro e w5 ⟨v5, x5, rfl, hrow5, hc⟩
            rw [List.nil_append, show ([UInt8.ofNat m.kind.toNat] : List UInt8).length = 1 from rfl] at hrow5
            replace hS := hS.call1 (N := []) 1 rfl hc
            try simp only [List.cons_append, List.nil_append, List.append_nil, List.set_cons_zero, List.set_cons_succ] at hS
            clear hc
            obtain ⟨a5, c5, rfl⟩ := hrow5.isSl
            refine ⟨_, rfl, ?_⟩
            refine hK.out _ _ ⟨(hS.get 0 rfl).cell 0 Hm.out.g0, (hS.get 0 rfl).cell 1 Hm.out.g1⟩ (fun hHeld => ?_)
            clear hK K
            simp only [Act.put, List.setIfInBounds_toArray, List.set_cons_succ, List.set_cons_zero]
            refine wpAnyH_ready (rs := [9]) (by kernel_rfl) (by simp) ?_
            refine hcons rfl rfl (fun K hK => ?_) ?_
            · clear hHeld
              have hcall := ofour_ok x5 (.slice a5 1 c5) [UInt8.ofNat m.kind.toNat] (.slice (some ⟨gc, 0, none⟩) 1 1) [m.channel] _ (hS.get 1 rfl) hrow5 ((RowV.lit 24 1 gc 1 [.int .u32 m.channel] rfl (by decide)).read (hS.get 2 rfl)) (hS.apart 1 2 rfl rfl (by decide)) H4.out (by simp) (by simp)
              refine owp_call rfl (by kernel_rfl) (args := #[.slice a5 1 c5, .slice (some ⟨gc, 0, none⟩) 1 1]) rfl hcall ?_
              clear hcall
              rintro e w6 ⟨v6, x6, rfl, hrow6, hc⟩
              rw [fours_one, show ([UInt8.ofNat m.kind.toNat] ++ enc 4 m.channel).length = 5 by rw [List.length_append, enc_length]; rfl] at hrow6
              replace hS := hS.call1 (N := []) 1 rfl hc
              try simp only [List.cons_append, List.nil_append, List.append_nil, List.set_cons_zero, List.set_cons_succ] at hS
              clear hc
              obtain ⟨a6, c6, rfl⟩ := hrow6.isSl
              refine ⟨_, rfl, ?_⟩
              refine hK.out _ _ ⟨(hS.get 0 rfl).cell 0 Hm.out.g0, (hS.get 0 rfl).cell 1 Hm.out.g1⟩ (fun hHeld => ?_)
              clear hK K
              simp only [Act.put, List.setIfInBounds_toArray, List.set_cons_succ, List.set_cons_zero]
              refine htake (i := 10) (v := (.slice a6 5 c6)) rfl (by kernel_rfl) (by kernel_rfl) (by kernel_rfl) (fun _ _ _ h => h) (Or.inl ⟨by rfl, by (intro w hSw; (try dsimp only at hSw); (try obtain ⟨h1, h2⟩ := hSw); go_simp; try with_reducible rfl)⟩) (by assumption) ?_; simp only [Act.put, List.setIfInBounds_toArray, List.set_cons_succ, List.set_cons_zero]
              refine wpAnyH_done (by kernel_rfl) ?_ _
              clear hHeld
              replace hS := hS.pick [0, 1, 3, 2] rfl (by decide)
              go_wp2_with fail
              go_meet
              exact ⟨x6, hrow6, hS.pick [0, 1] rfl (by decide)⟩
            exact AllReadyH.nil
          exact AllReadyH.nil
        exact AllReadyH.nil
      exact AllReadyH.nil
    refine hcons rfl rfl (fun K hK => ?_) ?_
    · clear hHeld
      refine owp_bslice1 (vs := [.int .u8 _]) hS rfl rfl (by rfl) (by decide) ?_
      clear hS; intro gk _ hS; try simp only [List.cons_append, List.nil_append, List.append_nil, List.set_cons_zero, List.set_cons_succ] at hS
      refine hK.out _ _ ⟨(hS.get 0 rfl).cell 0 Hm.out.g0, (hS.get 0 rfl).cell 1 Hm.out.g1⟩ (fun hHeld => ?_)
      clear hK K
      simp only [Act.put, List.setIfInBounds_toArray, List.set_cons_succ, List.set_cons_zero]
      refine wpAnyH_ready (rs := [0, 8]) (by kernel_rfl) (by simp) ?_
      refine hcons rfl rfl (fun K hK => ?_) ?_
      · clear hHeld
        refine owp_bslice0 hS rfl ?_
        clear hS; intro go _ hS; try simp only [List.cons_append, List.nil_append, List.append_nil, List.set_cons_zero, List.set_cons_succ] at hS
        refine hK.out _ _ ⟨(hS.get 0 rfl).cell 0 Hm.out.g0, (hS.get 0 rfl).cell 1 Hm.out.g1⟩ (fun hHeld => ?_)
        clear hK K
        simp only [Act.put, List.setIfInBounds_toArray, List.set_cons_succ, List.set_cons_zero]
        refine wpAnyH_ready (rs := [5, 8]) (by kernel_rfl) (by simp) ?_
        refine hcons rfl rfl (fun K hK => ?_) ?_
        · clear hHeld
          rw [← Hb.out] at hS
          have hcall := oone_ok _ (.slice (some ⟨go, 0, none⟩) 0 0) [] (.slice (some ⟨gk, 0, none⟩) 1 1) [UInt8.ofNat m.kind.toNat] _ (hS.get 2 rfl) (RowV.lit 5 1 _ 0 [] rfl (Nat.zero_le _)) ((RowV.lit 5 1 gk 1 _ rfl (by decide)).read (hS.get 1 rfl)) (by simp)
          refine owp_call rfl (by kernel_rfl) (args := #[.slice (some ⟨go, 0, none⟩) 0 0, .slice (some ⟨gk, 0, none⟩) 1 1]) rfl hcall ?_
          clear hcall
          rintro e w5 ⟨v5, x5, rfl, hrow5, hc⟩
          rw [List.nil_append, show ([UInt8.ofNat m.kind.toNat] : List UInt8).length = 1 from rfl] at hrow5
          replace hS := hS.call1 (N := []) 2 rfl hc
          try simp only [List.cons_append, List.nil_append, List.append_nil, List.set_cons_zero, List.set_cons_succ] at hS
          clear hc
          obtain ⟨a5, c5, rfl⟩ := hrow5.isSl
          refine ⟨_, rfl, ?_⟩
          refine hK.out _ _ ⟨(hS.get 0 rfl).cell 0 Hm.out.g0, (hS.get 0 rfl).cell 1 Hm.out.g1⟩ (fun hHeld => ?_)
          clear hK K
          simp only [Act.put, List.setIfInBounds_toArray, List.set_cons_succ, List.set_cons_zero]
          refine wpAnyH_ready (rs := [8]) (by kernel_rfl) (by simp) ?_
          refine hcons rfl rfl (fun K hK => ?_) ?_
          · clear hHeld
            refine owp_bslice1 (vs := [.int .u32 _]) hS rfl rfl (by rfl) (by decide) ?_
            clear hS; intro gc _ hS; try simp only [List.cons_append, List.nil_append, List.append_nil, List.set_cons_zero, List.set_cons_succ] at hS
            refine hK.out _ _ ⟨(hS.get 0 rfl).cell 0 Hm.out.g0, (hS.get 0 rfl).cell 1 Hm.out.g1⟩ (fun hHeld => ?_)
            clear hK K
            simp only [Act.put, List.setIfInBounds_toArray, List.set_cons_succ, List.set_cons_zero]
            refine wpAnyH_ready (rs := [9]) (by kernel_rfl) (by simp) ?_
            refine hcons rfl rfl (fun K hK => ?_) ?_
            · clear hHeld
              have hcall := ofour_ok x5 (.slice a5 1 c5) [UInt8.ofNat m.kind.toNat] (.slice (some ⟨gc, 0, none⟩) 1 1) [m.channel] _ (hS.get 2 rfl) hrow5 ((RowV.lit 24 1 gc 1 [.int .u32 m.channel] rfl (by decide)).read (hS.get 3 rfl)) (hS.apart 2 3 rfl rfl (by decide)) H4.out (by simp) (by simp)
              refine owp_call rfl (by kernel_rfl) (args := #[.slice a5 1 c5, .slice (some ⟨gc, 0, none⟩) 1 1]) rfl hcall ?_
              clear hcall
              rintro e w6 ⟨v6, x6, rfl, hrow6, hc⟩
              rw [fours_one, show ([UInt8.ofNat m.kind.toNat] ++ enc 4 m.channel).length = 5 by rw [List.length_append, enc_length]; rfl] at hrow6
              replace hS := hS.call1 (N := []) 2 rfl hc
              try simp only [List.cons_append, List.nil_append, List.append_nil, List.set_cons_zero, List.set_cons_succ] at hS
              clear hc
              obtain ⟨a6, c6, rfl⟩ := hrow6.isSl
              refine ⟨_, rfl, ?_⟩
              refine hK.out _ _ ⟨(hS.get 0 rfl).cell 0 Hm.out.g0, (hS.get 0 rfl).cell 1 Hm.out.g1⟩ (fun hHeld => ?_)
              clear hK K
              simp only [Act.put, List.setIfInBounds_toArray, List.set_cons_succ, List.set_cons_zero]
              refine htake (i := 10) (v := (.slice a6 5 c6)) rfl (by kernel_rfl) (by kernel_rfl) (by kernel_rfl) (fun _ _ _ h => h) (Or.inl ⟨by rfl, by (intro w hSw; (try dsimp only at hSw); (try obtain ⟨h1, h2⟩ := hSw); go_simp; try with_reducible rfl)⟩) (by assumption) ?_; simp only [Act.put, List.setIfInBounds_toArray, List.set_cons_succ, List.set_cons_zero]
              refine wpAnyH_done (by kernel_rfl) ?_ _
              clear hHeld
              replace hS := hS.pick [0, 2, 1, 3] rfl (by decide)
              go_wp2_with fail
              go_meet
              exact ⟨x6, hrow6, hS.pick [0, 1] rfl (by decide)⟩
            exact AllReadyH.nil
          exact AllReadyH.nil
        refine hcons rfl rfl (fun K hK => ?_) ?_
        · clear hHeld
          refine owp_bslice1 (vs := [.int .u32 _]) hS rfl rfl (by rfl) (by decide) ?_
          clear hS; intro gc _ hS; try simp only [List.cons_append, List.nil_append, List.append_nil, List.set_cons_zero, List.set_cons_succ] at hS
          refine hK.out _ _ ⟨(hS.get 0 rfl).cell 0 Hm.out.g0, (hS.get 0 rfl).cell 1 Hm.out.g1⟩ (fun hHeld => ?_)
          clear hK K
          simp only [Act.put, List.setIfInBounds_toArray, List.set_cons_succ, List.set_cons_zero]
          refine wpAnyH_ready (rs := [5]) (by kernel_rfl) (by simp) ?_
          refine hcons rfl rfl (fun K hK => ?_) ?_
          · clear hHeld
            rw [← Hb.out] at hS
            have hcall := oone_ok _ (.slice (some ⟨go, 0, none⟩) 0 0) [] (.slice (some ⟨gk, 0, none⟩) 1 1) [UInt8.ofNat m.kind.toNat] _ (hS.get 2 rfl) (RowV.lit 5 1 _ 0 [] rfl (Nat.zero_le _)) ((RowV.lit 5 1 gk 1 _ rfl (by decide)).read (hS.get 1 rfl)) (by simp)
            refine owp_call rfl (by kernel_rfl) (args := #[.slice (some ⟨go, 0, none⟩) 0 0, .slice (some ⟨gk, 0, none⟩) 1 1]) rfl hcall ?_
            clear hcall
            rintro e w5 ⟨v5, x5, rfl, hrow5, hc⟩
            rw [List.nil_append, show ([UInt8.ofNat m.kind.toNat] : List UInt8).length = 1 from rfl] at hrow5
            replace hS := hS.call1 (N := []) 2 rfl hc
            try simp only [List.cons_append, List.nil_append, List.append_nil, List.set_cons_zero, List.set_cons_succ] at hS
            clear hc
            obtain ⟨a5, c5, rfl⟩ := hrow5.isSl
            refine ⟨_, rfl, ?_⟩
            refine hK.out _ _ ⟨(hS.get 0 rfl).cell 0 Hm.out.g0, (hS.get 0 rfl).cell 1 Hm.out.g1⟩ (fun hHeld => ?_)
            clear hK K
            simp only [Act.put, List.setIfInBounds_toArray, List.set_cons_succ, List.set_cons_zero]
            refine wpAnyH_ready (rs := [9]) (by kernel_rfl) (by simp) ?_
            refine hcons rfl rfl (fun K hK => ?_) ?_
            · clear hHeld
              have hcall := ofour_ok x5 (.slice a5 1 c5) [UInt8.ofNat m.kind.toNat] (.slice (some ⟨gc, 0, none⟩) 1 1) [m.channel] _ (hS.get 2 rfl) hrow5 ((RowV.lit 24 1 gc 1 [.int .u32 m.channel] rfl (by decide)).read (hS.get 3 rfl)) (hS.apart 2 3 rfl rfl (by decide)) H4.out (by simp) (by simp)
              refine owp_call rfl (by kernel_rfl) (args := #[.slice a5 1 c5, .slice (some ⟨gc, 0, none⟩) 1 1]) rfl hcall ?_
              clear hcall
              rintro e w6 ⟨v6, x6, rfl, hrow6, hc⟩
              rw [fours_one, show ([UInt8.ofNat m.kind.toNat] ++ enc 4 m.channel).length = 5 by rw [List.length_append, enc_length]; rfl] at hrow6
              replace hS := hS.call1 (N := []) 2 rfl hc
              try simp only [List.cons_append, List.nil_append, List.append_nil, List.set_cons_zero, List.set_cons_succ] at hS
              clear hc
              obtain ⟨a6, c6, rfl⟩ := hrow6.isSl
              refine ⟨_, rfl, ?_⟩
              refine hK.out _ _ ⟨(hS.get 0 rfl).cell 0 Hm.out.g0, (hS.get 0 rfl).cell 1 Hm.out.g1⟩ (fun hHeld => ?_)
              clear hK K
              simp only [Act.put, List.setIfInBounds_toArray, List.set_cons_succ, List.set_cons_zero]
              refine htake (i := 10) (v := (.slice a6 5 c6)) rfl (by kernel_rfl) (by kernel_rfl) (by kernel_rfl) (fun _ _ _ h => h) (Or.inl ⟨by rfl, by (intro w hSw; (try dsimp only at hSw); (try obtain ⟨h1, h2⟩ := hSw); go_simp; try with_reducible rfl)⟩) (by assumption) ?_; simp only [Act.put, List.setIfInBounds_toArray, List.set_cons_succ, List.set_cons_zero]
              refine wpAnyH_done (by kernel_rfl) ?_ _
              clear hHeld
              replace hS := hS.pick [0, 2, 1, 3] rfl (by decide)
              go_wp2_with fail
              go_meet
              exact ⟨x6, hrow6, hS.pick [0, 1] rfl (by decide)⟩
            exact AllReadyH.nil
          exact AllReadyH.nil
        exact AllReadyH.nil
      refine hcons rfl rfl (fun K hK => ?_) ?_
      · clear hHeld
        refine owp_bslice1 (vs := [.int .u32 _]) hS rfl rfl (by rfl) (by decide) ?_
        clear hS; intro gc _ hS; try simp only [List.cons_append, List.nil_append, List.append_nil, List.set_cons_zero, List.set_cons_succ] at hS
        refine hK.out _ _ ⟨(hS.get 0 rfl).cell 0 Hm.out.g0, (hS.get 0 rfl).cell 1 Hm.out.g1⟩ (fun hHeld => ?_)
        clear hK K
        simp only [Act.put, List.setIfInBounds_toArray, List.set_cons_succ, List.set_cons_zero]
        refine wpAnyH_ready (rs := [0]) (by kernel_rfl) (by simp) ?_
        refine hcons rfl rfl (fun K hK => ?_) ?_
        · clear hHeld
          refine owp_bslice0 hS rfl ?_
          clear hS; intro go _ hS; try simp only [List.cons_append, List.nil_append, List.append_nil, List.set_cons_zero, List.set_cons_succ] at hS
          refine hK.out _ _ ⟨(hS.get 0 rfl).cell 0 Hm.out.g0, (hS.get 0 rfl).cell 1 Hm.out.g1⟩ (fun hHeld => ?_)
          clear hK K
          simp only [Act.put, List.setIfInBounds_toArray, List.set_cons_succ, List.set_cons_zero]
          refine wpAnyH_ready (rs := [5]) (by kernel_rfl) (by simp) ?_
          refine hcons rfl rfl (fun K hK => ?_) ?_
          · clear hHeld
            rw [← Hb.out] at hS
            have hcall := oone_ok _ (.slice (some ⟨go, 0, none⟩) 0 0) [] (.slice (some ⟨gk, 0, none⟩) 1 1) [UInt8.ofNat m.kind.toNat] _ (hS.get 3 rfl) (RowV.lit 5 1 _ 0 [] rfl (Nat.zero_le _)) ((RowV.lit 5 1 gk 1 _ rfl (by decide)).read (hS.get 1 rfl)) (by simp)
            refine owp_call rfl (by kernel_rfl) (args := #[.slice (some ⟨go, 0, none⟩) 0 0, .slice (some ⟨gk, 0, none⟩) 1 1]) rfl hcall ?_
            clear hcall
            rintro e w5 ⟨v5, x5, rfl, hrow5, hc⟩
            rw [List.nil_append, show ([UInt8.ofNat m.kind.toNat] : List UInt8).length = 1 from rfl] at hrow5
            replace hS := hS.call1 (N := []) 3 rfl hc
            try simp only [List.cons_append, List.nil_append, List.append_nil, List.set_cons_zero, List.set_cons_succ] at hS
            clear hc
            obtain ⟨a5, c5, rfl⟩ := hrow5.isSl
            refine ⟨_, rfl, ?_⟩
            refine hK.out _ _ ⟨(hS.get 0 rfl).cell 0 Hm.out.g0, (hS.get 0 rfl).cell 1 Hm.out.g1⟩ (fun hHeld => ?_)
            clear hK K
            simp only [Act.put, List.setIfInBounds_toArray, List.set_cons_succ, List.set_cons_zero]
            refine wpAnyH_ready (rs := [9]) (by kernel_rfl) (by simp) ?_
            refine hcons rfl rfl (fun K hK => ?_) ?_
            · clear hHeld
              have hcall := ofour_ok x5 (.slice a5 1 c5) [UInt8.ofNat m.kind.toNat] (.slice (some ⟨gc, 0, none⟩) 1 1) [m.channel] _ (hS.get 3 rfl) hrow5 ((RowV.lit 24 1 gc 1 [.int .u32 m.channel] rfl (by decide)).read (hS.get 2 rfl)) (hS.apart 3 2 rfl rfl (by decide)) H4.out (by simp) (by simp)
              refine owp_call rfl (by kernel_rfl) (args := #[.slice a5 1 c5, .slice (some ⟨gc, 0, none⟩) 1 1]) rfl hcall ?_
              clear hcall
              rintro e w6 ⟨v6, x6, rfl, hrow6, hc⟩
              rw [fours_one, show ([UInt8.ofNat m.kind.toNat] ++ enc 4 m.channel).length = 5 by rw [List.length_append, enc_length]; rfl] at hrow6
              replace hS := hS.call1 (N := []) 3 rfl hc
              try simp only [List.cons_append, List.nil_append, List.append_nil, List.set_cons_zero, List.set_cons_succ] at hS
              clear hc
              obtain ⟨a6, c6, rfl⟩ := hrow6.isSl
              refine ⟨_, rfl, ?_⟩
              refine hK.out _ _ ⟨(hS.get 0 rfl).cell 0 Hm.out.g0, (hS.get 0 rfl).cell 1 Hm.out.g1⟩ (fun hHeld => ?_)
              clear hK K
              simp only [Act.put, List.setIfInBounds_toArray, List.set_cons_succ, List.set_cons_zero]
              refine htake (i := 10) (v := (.slice a6 5 c6)) rfl (by kernel_rfl) (by kernel_rfl) (by kernel_rfl) (fun _ _ _ h => h) (Or.inl ⟨by rfl, by (intro w hSw; (try dsimp only at hSw); (try obtain ⟨h1, h2⟩ := hSw); go_simp; try with_reducible rfl)⟩) (by assumption) ?_; simp only [Act.put, List.setIfInBounds_toArray, List.set_cons_succ, List.set_cons_zero]
              refine wpAnyH_done (by kernel_rfl) ?_ _
              clear hHeld
              replace hS := hS.pick [0, 3, 1, 2] rfl (by decide)
              go_wp2_with fail
              go_meet
              exact ⟨x6, hrow6, hS.pick [0, 1] rfl (by decide)⟩
            exact AllReadyH.nil
          exact AllReadyH.nil
        exact AllReadyH.nil
      exact AllReadyH.nil
    refine hcons rfl rfl (fun K hK => ?_) ?_
    · clear hHeld
      refine owp_bslice1 (vs := [.int .u32 _]) hS rfl rfl (by rfl) (by decide) ?_
      clear hS; intro gc _ hS; try simp only [List.cons_append, List.nil_append, List.append_nil, List.set_cons_zero, List.set_cons_succ] at hS
      refine hK.out _ _ ⟨(hS.get 0 rfl).cell 0 Hm.out.g0, (hS.get 0 rfl).cell 1 Hm.out.g1⟩ (fun hHeld => ?_)
      clear hK K
      simp only [Act.put, List.setIfInBounds_toArray, List.set_cons_succ, List.set_cons_zero]
      refine wpAnyH_ready (rs := [0, 4]) (by kernel_rfl) (by simp) ?_
      refine hcons rfl rfl (fun K hK => ?_) ?_
      · clear hHeld
        refine owp_bslice0 hS rfl ?_
        clear hS; intro go _ hS; try simp only [List.cons_append, List.nil_append, List.append_nil, List.set_cons_zero, List.set_cons_succ] at hS
        refine hK.out _ _ ⟨(hS.get 0 rfl).cell 0 Hm.out.g0, (hS.get 0 rfl).cell 1 Hm.out.g1⟩ (fun hHeld => ?_)
        clear hK K
        simp only [Act.put, List.setIfInBounds_toArray, List.set_cons_succ, List.set_cons_zero]
        refine wpAnyH_ready (rs := [4]) (by kernel_rfl) (by simp) ?_
        refine hcons rfl rfl (fun K hK => ?_) ?_
        · clear hHeld
          refine owp_bslice1 (vs := [.int .u8 _]) hS rfl rfl (by rfl) (by decide) ?_
          clear hS; intro gk _ hS; try simp only [List.cons_append, List.nil_append, List.append_nil, List.set_cons_zero, List.set_cons_succ] at hS
          refine hK.out _ _ ⟨(hS.get 0 rfl).cell 0 Hm.out.g0, (hS.get 0 rfl).cell 1 Hm.out.g1⟩ (fun hHeld => ?_)
          clear hK K
          simp only [Act.put, List.setIfInBounds_toArray, List.set_cons_succ, List.set_cons_zero]
          refine wpAnyH_ready (rs := [5]) (by kernel_rfl) (by simp) ?_
          refine hcons rfl rfl (fun K hK => ?_) ?_
          · clear hHeld
            rw [← Hb.out] at hS
            have hcall := oone_ok _ (.slice (some ⟨go, 0, none⟩) 0 0) [] (.slice (some ⟨gk, 0, none⟩) 1 1) [UInt8.ofNat m.kind.toNat] _ (hS.get 2 rfl) (RowV.lit 5 1 _ 0 [] rfl (Nat.zero_le _)) ((RowV.lit 5 1 gk 1 _ rfl (by decide)).read (hS.get 3 rfl)) (by simp)
            refine owp_call rfl (by kernel_rfl) (args := #[.slice (some ⟨go, 0, none⟩) 0 0, .slice (some ⟨gk, 0, none⟩) 1 1]) rfl hcall ?_
            clear hcall
            rintro e w5 ⟨v5, x5, rfl, hrow5, hc⟩
            rw [List.nil_append, show ([UInt8.ofNat m.kind.toNat] : List UInt8).length = 1 from rfl] at hrow5
            replace hS := hS.call1 (N := []) 2 rfl hc
            try simp only [List.cons_append, List.nil_append, List.append_nil, List.set_cons_zero, List.set_cons_succ] at hS
            clear hc
            obtain ⟨a5, c5, rfl⟩ := hrow5.isSl
            refine ⟨_, rfl, ?_⟩
            refine hK.out _ _ ⟨(hS.get 0 rfl).cell 0 Hm.out.g0, (hS.get 0 rfl).cell 1 Hm.out.g1⟩ (fun hHeld => ?_)
            clear hK K
            simp only [Act.put, List.setIfInBounds_toArray, List.set_cons_succ, List.set_cons_zero]
            refine wpAnyH_ready (rs := [9]) (by kernel_rfl) (by simp) ?_
            refine hcons rfl rfl (fun K hK => ?_) ?_
            · clear hHeld
              have hcall := ofour_ok x5 (.slice a5 1 c5) [UInt8.ofNat m.kind.toNat] (.slice (some ⟨gc, 0, none⟩) 1 1) [m.channel] _ (hS.get 2 rfl) hrow5 ((RowV.lit 24 1 gc 1 [.int .u32 m.channel] rfl (by decide)).read (hS.get 1 rfl)) (hS.apart 2 1 rfl rfl (by decide)) H4.out (by simp) (by simp)
              refine owp_call rfl (by kernel_rfl) (args := #[.slice a5 1 c5, .slice (some ⟨gc, 0, none⟩) 1 1]) rfl hcall ?_
              clear hcall
              rintro e w6 ⟨v6, x6, rfl, hrow6, hc⟩
              rw [fours_one, show ([UInt8.ofNat m.kind.toNat] ++ enc 4 m.channel).length = 5 by rw [List.length_append, enc_length]; rfl] at hrow6
              replace hS := hS.call1 (N := []) 2 rfl hc
              try simp only [List.cons_append, List.nil_append, List.append_nil, List.set_cons_zero, List.set_cons_succ] at hS
              clear hc
              obtain ⟨a6, c6, rfl⟩ := hrow6.isSl
              refine ⟨_, rfl, ?_⟩
              refine hK.out _ _ ⟨(hS.get 0 rfl).cell 0 Hm.out.g0, (hS.get 0 rfl).cell 1 Hm.out.g1⟩ (fun hHeld => ?_)
              clear hK K
              simp only [Act.put, List.setIfInBounds_toArray, List.set_cons_succ, List.set_cons_zero]
              refine htake (i := 10) (v := (.slice a6 5 c6)) rfl (by kernel_rfl) (by kernel_rfl) (by kernel_rfl) (fun _ _ _ h => h) (Or.inl ⟨by rfl, by (intro w hSw; (try dsimp only at hSw); (try obtain ⟨h1, h2⟩ := hSw); go_simp; try with_reducible rfl)⟩) (by assumption) ?_; simp only [Act.put, List.setIfInBounds_toArray, List.set_cons_succ, List.set_cons_zero]
              refine wpAnyH_done (by kernel_rfl) ?_ _
              clear hHeld
              replace hS := hS.pick [0, 2, 3, 1] rfl (by decide)
              go_wp2_with fail
              go_meet
              exact ⟨x6, hrow6, hS.pick [0, 1] rfl (by decide)⟩
            exact AllReadyH.nil
          exact AllReadyH.nil
        exact AllReadyH.nil
      refine hcons rfl rfl (fun K hK => ?_) ?_
      · clear hHeld
        refine owp_bslice1 (vs := [.int .u8 _]) hS rfl rfl (by rfl) (by decide) ?_
        clear hS; intro gk _ hS; try simp only [List.cons_append, List.nil_append, List.append_nil, List.set_cons_zero, List.set_cons_succ] at hS
        refine hK.out _ _ ⟨(hS.get 0 rfl).cell 0 Hm.out.g0, (hS.get 0 rfl).cell 1 Hm.out.g1⟩ (fun hHeld => ?_)
        clear hK K
        simp only [Act.put, List.setIfInBounds_toArray, List.set_cons_succ, List.set_cons_zero]
        refine wpAnyH_ready (rs := [0]) (by kernel_rfl) (by simp) ?_
        refine hcons rfl rfl (fun K hK => ?_) ?_
        · clear hHeld
          refine owp_bslice0 hS rfl ?_
          clear hS; intro go _ hS; try simp only [List.cons_append, List.nil_append, List.append_nil, List.set_cons_zero, List.set_cons_succ] at hS
          refine hK.out _ _ ⟨(hS.get 0 rfl).cell 0 Hm.out.g0, (hS.get 0 rfl).cell 1 Hm.out.g1⟩ (fun hHeld => ?_)
          clear hK K
          simp only [Act.put, List.setIfInBounds_toArray, List.set_cons_succ, List.set_cons_zero]
          refine wpAnyH_ready (rs := [5]) (by kernel_rfl) (by simp) ?_
          refine hcons rfl rfl (fun K hK => ?_) ?_
          · clear hHeld
            rw [← Hb.out] at hS
            have hcall := oone_ok _ (.slice (some ⟨go, 0, none⟩) 0 0) [] (.slice (some ⟨gk, 0, none⟩) 1 1) [UInt8.ofNat m.kind.toNat] _ (hS.get 3 rfl) (RowV.lit 5 1 _ 0 [] rfl (Nat.zero_le _)) ((RowV.lit 5 1 gk 1 _ rfl (by decide)).read (hS.get 2 rfl)) (by simp)
            refine owp_call rfl (by kernel_rfl) (args := #[.slice (some ⟨go, 0, none⟩) 0 0, .slice (some ⟨gk, 0, none⟩) 1 1]) rfl hcall ?_
            clear hcall
            rintro e w5 ⟨v5, x5, rfl, hrow5, hc⟩
            rw [List.nil_append, show ([UInt8.ofNat m.kind.toNat] : List UInt8).length = 1 from rfl] at hrow5
            replace hS := hS.call1 (N := []) 3 rfl hc
            try simp only [List.cons_append, List.nil_append, List.append_nil, List.set_cons_zero, List.set_cons_succ] at hS
            clear hc
            obtain ⟨a5, c5, rfl⟩ := hrow5.isSl
            refine ⟨_, rfl, ?_⟩
            refine hK.out _ _ ⟨(hS.get 0 rfl).cell 0 Hm.out.g0, (hS.get 0 rfl).cell 1 Hm.out.g1⟩ (fun hHeld => ?_)
            clear hK K
            simp only [Act.put, List.setIfInBounds_toArray, List.set_cons_succ, List.set_cons_zero]
            refine wpAnyH_ready (rs := [9]) (by kernel_rfl) (by simp) ?_
            refine hcons rfl rfl (fun K hK => ?_) ?_
            · clear hHeld
              have hcall := ofour_ok x5 (.slice a5 1 c5) [UInt8.ofNat m.kind.toNat] (.slice (some ⟨gc, 0, none⟩) 1 1) [m.channel] _ (hS.get 3 rfl) hrow5 ((RowV.lit 24 1 gc 1 [.int .u32 m.channel] rfl (by decide)).read (hS.get 1 rfl)) (hS.apart 3 1 rfl rfl (by decide)) H4.out (by simp) (by simp)
              refine owp_call rfl (by kernel_rfl) (args := #[.slice a5 1 c5, .slice (some ⟨gc, 0, none⟩) 1 1]) rfl hcall ?_
              clear hcall
              rintro e w6 ⟨v6, x6, rfl, hrow6, hc⟩
              rw [fours_one, show ([UInt8.ofNat m.kind.toNat] ++ enc 4 m.channel).length = 5 by rw [List.length_append, enc_length]; rfl] at hrow6
              replace hS := hS.call1 (N := []) 3 rfl hc
              try simp only [List.cons_append, List.nil_append, List.append_nil, List.set_cons_zero, List.set_cons_succ] at hS
              clear hc
              obtain ⟨a6, c6, rfl⟩ := hrow6.isSl
              refine ⟨_, rfl, ?_⟩
              refine hK.out _ _ ⟨(hS.get 0 rfl).cell 0 Hm.out.g0, (hS.get 0 rfl).cell 1 Hm.out.g1⟩ (fun hHeld => ?_)
              clear hK K
              simp only [Act.put, List.setIfInBounds_toArray, List.set_cons_succ, List.set_cons_zero]
              refine htake (i := 10) (v := (.slice a6 5 c6)) rfl (by kernel_rfl) (by kernel_rfl) (by kernel_rfl) (fun _ _ _ h => h) (Or.inl ⟨by rfl, by (intro w hSw; (try dsimp only at hSw); (try obtain ⟨h1, h2⟩ := hSw); go_simp; try with_reducible rfl)⟩) (by assumption) ?_; simp only [Act.put, List.setIfInBounds_toArray, List.set_cons_succ, List.set_cons_zero]
              refine wpAnyH_done (by kernel_rfl) ?_ _
              clear hHeld
              replace hS := hS.pick [0, 3, 2, 1] rfl (by decide)
              go_wp2_with fail
              go_meet
              exact ⟨x6, hrow6, hS.pick [0, 1] rfl (by decide)⟩
            exact AllReadyH.nil
          exact AllReadyH.nil
        exact AllReadyH.nil
      exact AllReadyH.nil
    exact AllReadyH.nil
  clear hS
  obtain ⟨x6, hrow, hS⟩ := hcut
  obtain ⟨a6, c6, rfl⟩ := hrow.isSl
  have e1 : (m.kind == 1) = false := by rw [Hk.out]; rfl
  have e2 : (m.kind == 2) = false := by rw [Hk.out]; rfl
  have e3 : ¬ m.kind = 1 := by rw [Hk.out]; decide
  have e4 : ¬ m.kind = 2 := by rw [Hk.out]; decide
  go_wp2_with (first | ((with_reducible show wpList _ _ _ (Oper.mk _ (Op.load _ _) _ _ _ _ :: _) _ _); refine wpl rfl ?_; refine owp_load1 hS 0 rfl rfl rfl (Hm.out.g0) ?_))
  go_ret2
  refine ⟨_, x6, rfl, ?_, hS.pick [1] rfl (by decide)⟩
  rw [layHead_length]
  exact hrow

end Go.Proofs.Ytjgphbdffhmmgaa
