/-
  A payment's way laid to bytes by the program.
-/
import Derived.Test.YtjgphbdffhmmgaaOut1
import Derived.Test.YtjgphbdffhmmgaaIn8
import Derived.Test.YtjgphbdffhmmgaaHeld
namespace Go.Proofs.Ytjgphbdffhmmgaa
set_option linter.unusedSimpArgs false
set_option linter.unusedVariables false
open Go Go.RowKit
set_option maxRecDepth 100000
set_option maxHeartbeats 2000000

def layHop (h : Hop) : List UInt8 := enc 4 h.channel ++ (enc 8 h.amount ++ enc 8 h.id)
def layTrail (l : List Hop) : List UInt8 := UInt8.ofNat l.length :: l.flatMap layHop
def Hop.Ok (h : Hop) : Prop := h.channel < 2 ^ 32 ∧ h.amount < 2 ^ 64 ∧ h.id < 2 ^ 64
theorem layHop_length (h : Hop) : (layHop h).length = 20 := by simp [layHop, enc_length]
theorem layHops_length (l : List Hop) : (l.flatMap layHop).length = 20 * l.length := by
  induction l with
  | nil => rfl
  | cons n l ih => simp only [List.flatMap_cons, List.length_append, layHop_length, List.length_cons] at *; omega
theorem layHops_succ (l : List Hop) (k : Nat) (h : k < l.length) : (l.take (k + 1)).flatMap layHop = (l.take k).flatMap layHop ++ layHop l[k] := by
  rw [List.take_succ_eq_append_getElem h, List.flatMap_append]; simp
theorem eights_two (a b : Nat) : eights [a, b] = enc 8 a ++ enc 8 b := by simp [eights]
theorem fours_one (a : Nat) : fours [a] = enc 4 a := by simp [fours]

theorem RowR.cellsAt {w : World} {size : Nat} {a : Option Addr} {m c : Nat} {xs : List Value} (h : RowR w size (.slice a m c) m xs) (k : Nat) (hk : k < m) :
    ∃ g off, a = some ⟨g, off, none⟩ ∧ CellsAt w ⟨g, off + k * size, none⟩ ((xs.drop (k * size)).take size) := by
  rcases h.2 with ⟨e, h0⟩ | ⟨ad, cap, e, hc, hs, hcells⟩
  · omega
  · obtain ⟨g, off, spot⟩ := ad
    simp only [Value.slice.injEq] at e
    simp only at hs
    replace hs := hs.resolve_left (by omega)
    subst hs
    refine ⟨g, off, e.1, ?_⟩
    intro j v hj
    rw [List.getElem?_take] at hj
    split at hj
    · rw [List.getElem?_drop] at hj
      have := hcells _ v hj
      rw [add_zero] at this
      rw [add_zero, Nat.add_assoc]
      exact this
    · cases hj

theorem hopCells_drop (l : List Hop) : ∀ (k : Nat) (h : k < l.length), ((hopCells l).drop (k * 3)).take 3 = l[k].cells := by
  induction l with
  | nil => intro k h; simp at h
  | cons x l ih =>
    intro k h
    cases k with
    | zero => simp [hopCells, Hop.cells]
    | succ k =>
      have h2 : k < l.length := by simpa using h
      have h3 : hopCells (x :: l) = x.cells ++ hopCells l := by simp [hopCells]
      have h4 : x.cells.length = 3 := rfl
      rw [h3, List.drop_append, List.drop_eq_nil_of_le (by omega), List.nil_append, show (k + 1) * 3 - x.cells.length = k * 3 by omega, ih k h2]
      simp

theorem B_small (n : Nat) (h : n < 256) : bs [UInt8.ofNat n] = [.int .u8 n] := by
  simp only [bs, List.map_cons, List.map_nil, B_ofNat, Nat.mod_eq_of_lt h]

theorem olayTrail_ok (x : Ent) (v : Value) (l : List UInt8) (u : Value) (hs : List Hop) (w : World) (hb : Holds w x) (hv : RowV 5 1 v l.length (bs l) x)
    (hu : RowR w 3 u hs.length (hopCells hs)) (hd : ∀ ad m c, u = .slice (some ad) m c → ad.block ∉ keys [x]) (hn : ∀ h, h ∈ hs → h.Ok)
    (hl : l.length ≤ 50000000) (hl2 : hs.length ≤ 100) :
    Calls Try.prog 14 #[v, u] w (OPost w x (l ++ layTrail hs)) := by
  have hS := St.start w [x] (fun y hy => by simp at hy; subst hy; exact hb) (by cases x <;> simp [keys])
  obtain ⟨a1, c1, rfl⟩ := hu.isSl
  obtain ⟨a0, c0, rfl⟩ := hv.isSl
  have Hu := Lib.hid hu
  have Hn := Lib.hid hn
  clear hu hn
  go_enter Try.func14, Try.ntmps14
  go_wp2_with (first
    | ((with_reducible show wpList _ _ _ (Oper.mk _ (Op.buildSlice _ _ _) _ _ _ _ :: _) _ _); refine wpl rfl ?_; refine owp_bslice1 (vs := [.int .u8 _]) hS rfl rfl (by rfl) (by decide) ?_; clear hS; intro g1 w1 hS; try simp only [List.cons_append, List.nil_append, List.append_nil, List.set_cons_zero, List.set_cons_succ] at hS))
  rw [← B_small hs.length (by omega)] at hS
  refine (oone_ok x _ l _ [UInt8.ofNat hs.length] _ (hS.get 0 rfl) hv ((RowV.lit 5 1 _ 1 _ rfl (by decide)).read (hS.get 1 rfl)) (by simp; omega)).mono ?_
  rintro e w1 ⟨v', x', rfl, hrow, hc⟩
  replace hS := (hS.call1 (N := []) 0 rfl hc).pick [0] (L' := [x']) rfl (by decide)
  clear hc hv
  have Hlay := Lib.hid (show l ++ layTrail hs = (l ++ [UInt8.ofNat hs.length]) ++ hs.flatMap layHop by simp [layTrail])
  have hl1 : (l ++ [UInt8.ofNat hs.length]).length ≤ 60000000 := by simp; omega
  generalize l ++ [UInt8.ofNat hs.length] = l1 at *
  go_wp2_with fail
  go_loopw [0, 6, 15] (fun o _ i wr => ∃ (j : Nat) (x' : Ent), j ≤ hs.length ∧ i = .int .i64 j ∧ RowV 5 1 o (l1 ++ (hs.take j).flatMap layHop).length (bs (l1 ++ (hs.take j).flatMap layHop)) x' ∧ St w (keys [x]) wr [x']) (fun _ _ i _ => hs.length - (intOf i).toNat)
  case atStart => exact ⟨0, x', Nat.zero_le _, rfl, by simpa using hrow, hS⟩
  case round =>
    clear hS hrow
    obtain ⟨j, x', hj, rfl, hrow, hS⟩ := hrel
    obtain ⟨a0, c0, rfl⟩ := hrow.isSl
    by_cases hlt : j < hs.length
    · obtain ⟨g, off, rfl, hc⟩ := (Hu.out.st hS hd).cellsAt j hlt
      rw [hopCells_drop hs j hlt] at hc
      have hlen : (l1 ++ (hs.take j).flatMap layHop).length ≤ 70000000 := by
        rw [List.length_append, layHops_length, List.length_take]; omega
      have Hstep := Lib.hid (show l1 ++ (hs.take (j + 1)).flatMap layHop = ((l1 ++ (hs.take j).flatMap layHop) ++ fours [hs[j].channel]) ++ eights [hs[j].amount, hs[j].id] by
        rw [layHops_succ hs j hlt, fours_one, eights_two]; simp [layHop, List.append_assoc])
      have hok := Hn.out _ (List.getElem_mem hlt)
      generalize hs[j] = h at *
      generalize l1 ++ (hs.take j).flatMap layHop = l2 at *
      have H4 := Lib.hid (show ∀ n, n ∈ [h.channel] → n < 2 ^ 32 by intro n hn; simp only [List.mem_singleton] at hn; subst hn; exact hok.1)
      have H8 := Lib.hid (show ∀ n, n ∈ [h.amount, h.id] → n < 2 ^ 64 by intro n hn; simp only [List.mem_cons, List.not_mem_nil, or_false] at hn; rcases hn with rfl | rfl; exact hok.2.1; exact hok.2.2)
      have Hl4 := Lib.hid (show (l2 ++ fours [h.channel]).length ≤ 100000000 by rw [List.length_append, fours_length]; simp; omega)
      clear hok
      go_wp2_with (first
        | ((with_reducible show wpList _ _ _ (Oper.mk _ (Op.load _ _) _ _ _ _ :: _) _ _); refine wpl rfl ?_; refine owp_loadR rfl rfl hc rfl ?_)
        | ((with_reducible show wpList _ _ _ (Oper.mk (some 6) (Op.alloc _) _ _ _ _ :: _) _ _); refine wpl rfl ?_; refine (owp_allocAt hS 6 rfl rfl ?_); clear hS; intro gh _ hS; simp only [List.cons_append, List.nil_append] at hS)
        | ((with_reducible show wpList _ _ _ (Oper.mk _ (Op.store _ _ _) _ _ _ _ :: _) _ _); refine wpl rfl ?_; refine (owp_storeW hS 1 rfl rfl rfl rfl (rfl) (rfl) (Hop.one _) ?_); clear hS; intro _ hS; try simp only [List.cons_append, List.nil_append, List.append_nil, List.set_cons_zero, List.set_cons_succ] at hS))
      clear hc
      replace hS := hS.drew
      refine wp_region_held_drew (S := (fun w' => w'.cell? ⟨gh, 0, none⟩ = some (.int .u32 h.channel) ∧ w'.cell? ⟨gh, 1, none⟩ = some (.int .u64 h.amount) ∧ w'.cell? ⟨gh, 2, none⟩ = some (.int .u64 h.id))) (by kernel_rfl) ⟨(hS.get 1 rfl).cell 0 rfl, (hS.get 1 rfl).cell 1 rfl, (hS.get 1 rfl).cell 2 rfl⟩ (fun hHeld => ?_)
      refine htake (i := 0) (v := (.slice a0 l2.length c0)) rfl (by kernel_rfl) (by kernel_rfl) (by kernel_rfl) (fun _ _ _ h => h) (Or.inl ⟨by rfl, by (intro w hSw; (try dsimp only at hSw); (try obtain ⟨h1, h2, h3⟩ := hSw); go_simp; try with_reducible rfl)⟩) (by assumption) ?_; simp only [Act.put, List.setIfInBounds_toArray, List.set_cons_succ, List.set_cons_zero]
      refine htake (i := 1) (v := (.pointer (some ⟨gh, 0, none⟩))) rfl (by kernel_rfl) (by kernel_rfl) (by kernel_rfl) (fun _ _ _ h => h) (Or.inl ⟨by rfl, by (intro w hSw; (try dsimp only at hSw); (try obtain ⟨h1, h2, h3⟩ := hSw); go_simp; try with_reducible rfl)⟩) (by assumption) ?_; simp only [Act.put, List.setIfInBounds_toArray, List.set_cons_succ, List.set_cons_zero]
      refine htake (i := 2) (v := (.int .u32 h.channel)) rfl (by kernel_rfl) (by kernel_rfl) (by kernel_rfl) (fun _ _ _ h => h) (Or.inl ⟨by rfl, by (intro w hSw; (try dsimp only at hSw); (try obtain ⟨h1, h2, h3⟩ := hSw); go_simp; try with_reducible rfl)⟩) (by assumption) ?_; simp only [Act.put, List.setIfInBounds_toArray, List.set_cons_succ, List.set_cons_zero]
      refine htake (i := 5) (v := (.pointer (some ⟨gh, 1, none⟩))) rfl (by kernel_rfl) (by kernel_rfl) (by kernel_rfl) (fun _ _ _ h => h) (Or.inl ⟨by rfl, by (intro w hSw; (try dsimp only at hSw); (try obtain ⟨h1, h2, h3⟩ := hSw); go_simp; try with_reducible rfl)⟩) (by assumption) ?_; simp only [Act.put, List.setIfInBounds_toArray, List.set_cons_succ, List.set_cons_zero]
      refine htake (i := 6) (v := (.int .u64 h.amount)) rfl (by kernel_rfl) (by kernel_rfl) (by kernel_rfl) (fun _ _ _ h => h) (Or.inl ⟨by rfl, by (intro w hSw; (try dsimp only at hSw); (try obtain ⟨h1, h2, h3⟩ := hSw); go_simp; try with_reducible rfl)⟩) (by assumption) ?_; simp only [Act.put, List.setIfInBounds_toArray, List.set_cons_succ, List.set_cons_zero]
      refine htake (i := 7) (v := (.pointer (some ⟨gh, 2, none⟩))) rfl (by kernel_rfl) (by kernel_rfl) (by kernel_rfl) (fun _ _ _ h => h) (Or.inl ⟨by rfl, by (intro w hSw; (try dsimp only at hSw); (try obtain ⟨h1, h2, h3⟩ := hSw); go_simp; try with_reducible rfl)⟩) (by assumption) ?_; simp only [Act.put, List.setIfInBounds_toArray, List.set_cons_succ, List.set_cons_zero]
      refine htake (i := 8) (v := (.int .u64 h.id)) rfl (by kernel_rfl) (by kernel_rfl) (by kernel_rfl) (fun _ _ _ h => h) (Or.inl ⟨by rfl, by (intro w hSw; (try dsimp only at hSw); (try obtain ⟨h1, h2, h3⟩ := hSw); go_simp; try with_reducible rfl)⟩) (by assumption) ?_; simp only [Act.put, List.setIfInBounds_toArray, List.set_cons_succ, List.set_cons_zero]
      refine wpAnyH_ready (rs := [3, 9]) (by kernel_rfl) (by simp) ?_
      refine hcons rfl rfl (fun K hK => ?_) ?_
      · clear hHeld
        refine owp_bslice1 (vs := [.int .u32 _]) hS rfl rfl (by rfl) (by decide) ?_
        clear hS; intro g4 _ hS; try simp only [List.cons_append, List.nil_append, List.append_nil, List.set_cons_zero, List.set_cons_succ] at hS
        refine hK.out _ _ ⟨(hS.get 1 rfl).cell 0 rfl, (hS.get 1 rfl).cell 1 rfl, (hS.get 1 rfl).cell 2 rfl⟩ (fun hHeld => ?_)
        clear hK K
        simp only [Act.put, List.setIfInBounds_toArray, List.set_cons_succ, List.set_cons_zero]
        refine wpAnyH_ready (rs := [4, 9]) (by kernel_rfl) (by simp) ?_
        refine hcons rfl rfl (fun K hK => ?_) ?_
        · clear hHeld
          have hcall := (ofour_ok x' (.slice a0 l2.length c0) l2 (.slice (some ⟨g4, 0, none⟩) 1 1) [h.channel] _ (hS.get 0 rfl) hrow ((RowV.lit 24 1 g4 1 [.int .u32 h.channel] rfl (by decide)).read (hS.get 2 rfl)) (hS.apart 0 2 rfl rfl (by decide)) H4.out (by omega) (by simp))
          refine owp_call rfl (by kernel_rfl) (args := #[.slice a0 l2.length c0, .slice (some ⟨g4, 0, none⟩) 1 1]) rfl hcall ?_
          clear hcall
          rintro e w5 ⟨v5, x5, rfl, hrow5, hc⟩
          replace hS := hS.call1 (N := []) 0 rfl hc
          try simp only [List.cons_append, List.nil_append, List.append_nil, List.set_cons_zero, List.set_cons_succ] at hS
          clear hc
          obtain ⟨a5, c5, rfl⟩ := hrow5.isSl
          refine ⟨_, rfl, ?_⟩
          refine hK.out _ _ ⟨(hS.get 1 rfl).cell 0 rfl, (hS.get 1 rfl).cell 1 rfl, (hS.get 1 rfl).cell 2 rfl⟩ (fun hHeld => ?_)
          clear hK K
          simp only [Act.put, List.setIfInBounds_toArray, List.set_cons_succ, List.set_cons_zero]
          refine wpAnyH_ready (rs := [9]) (by kernel_rfl) (by simp) ?_
          refine hcons rfl rfl (fun K hK => ?_) ?_
          · clear hHeld
            refine owp_bslice2 hS rfl rfl rfl rfl rfl ?_
            clear hS; intro g8 _ hS; try simp only [List.cons_append, List.nil_append, List.append_nil, List.set_cons_zero, List.set_cons_succ] at hS
            refine hK.out _ _ ⟨(hS.get 1 rfl).cell 0 rfl, (hS.get 1 rfl).cell 1 rfl, (hS.get 1 rfl).cell 2 rfl⟩ (fun hHeld => ?_)
            clear hK K
            simp only [Act.put, List.setIfInBounds_toArray, List.set_cons_succ, List.set_cons_zero]
            refine wpAnyH_ready (rs := [10]) (by kernel_rfl) (by simp) ?_
            refine hcons rfl rfl (fun K hK => ?_) ?_
            · clear hHeld
              have hcall := (oeight_ok x5 (.slice a5 _ c5) _ (.slice (some ⟨g8, 0, none⟩) 2 2) [h.amount, h.id] _ (hS.get 0 rfl) hrow5 ((RowV.lit 25 1 g8 2 [.int .u64 h.amount, .int .u64 h.id] rfl (by decide)).read (hS.get 3 rfl)) (hS.apart 0 3 rfl rfl (by decide)) H8.out Hl4.out (by simp))
              refine owp_call rfl (by kernel_rfl) (args := #[.slice a5 _ c5, .slice (some ⟨g8, 0, none⟩) 2 2]) rfl hcall ?_
              clear hcall
              rintro e w6 ⟨v6, x6, rfl, hrow6, hc⟩
              replace hS := hS.call1 (N := []) 0 rfl hc
              try simp only [List.cons_append, List.nil_append, List.append_nil, List.set_cons_zero, List.set_cons_succ] at hS
              clear hc
              obtain ⟨a6, c6, rfl⟩ := hrow6.isSl
              refine ⟨_, rfl, ?_⟩
              refine hK.out _ _ ⟨(hS.get 1 rfl).cell 0 rfl, (hS.get 1 rfl).cell 1 rfl, (hS.get 1 rfl).cell 2 rfl⟩ (fun hHeld => ?_)
              clear hK K
              simp only [Act.put, List.setIfInBounds_toArray, List.set_cons_succ, List.set_cons_zero]
              refine htake (i := 11) (v := (.slice a6 (l2 ++ fours [h.channel] ++ eights [h.amount, h.id]).length c6)) rfl (by kernel_rfl) (by kernel_rfl) (by kernel_rfl) (fun _ _ _ h => h) (Or.inl ⟨by rfl, by (intro w hSw; (try dsimp only at hSw); (try obtain ⟨h1, h2, h3⟩ := hSw); go_simp; try with_reducible rfl)⟩) (by assumption) ?_; simp only [Act.put, List.setIfInBounds_toArray, List.set_cons_succ, List.set_cons_zero]
              refine wpAnyH_done (by kernel_rfl) ?_ _
              clear hHeld
              go_wp2_with fail
              go_roundw
              case rel =>
                refine ⟨j + 1, x6, by omega, by go_num, ?_, hS.pick [0] rfl (by decide)⟩
                rw [Hstep.out]
                exact hrow6
              case measure => simp [intOf]; omega
            exact AllReadyH.nil
          exact AllReadyH.nil
        refine hcons rfl rfl (fun K hK => ?_) ?_
        · clear hHeld
          refine owp_bslice2 hS rfl rfl rfl rfl rfl ?_
          clear hS; intro g8 _ hS; try simp only [List.cons_append, List.nil_append, List.append_nil, List.set_cons_zero, List.set_cons_succ] at hS
          refine hK.out _ _ ⟨(hS.get 1 rfl).cell 0 rfl, (hS.get 1 rfl).cell 1 rfl, (hS.get 1 rfl).cell 2 rfl⟩ (fun hHeld => ?_)
          clear hK K
          simp only [Act.put, List.setIfInBounds_toArray, List.set_cons_succ, List.set_cons_zero]
          refine wpAnyH_ready (rs := [4]) (by kernel_rfl) (by simp) ?_
          refine hcons rfl rfl (fun K hK => ?_) ?_
          · clear hHeld
            have hcall := (ofour_ok x' (.slice a0 l2.length c0) l2 (.slice (some ⟨g4, 0, none⟩) 1 1) [h.channel] _ (hS.get 0 rfl) hrow ((RowV.lit 24 1 g4 1 [.int .u32 h.channel] rfl (by decide)).read (hS.get 2 rfl)) (hS.apart 0 2 rfl rfl (by decide)) H4.out (by omega) (by simp))
            refine owp_call rfl (by kernel_rfl) (args := #[.slice a0 l2.length c0, .slice (some ⟨g4, 0, none⟩) 1 1]) rfl hcall ?_
            clear hcall
            rintro e w5 ⟨v5, x5, rfl, hrow5, hc⟩
            replace hS := hS.call1 (N := []) 0 rfl hc
            try simp only [List.cons_append, List.nil_append, List.append_nil, List.set_cons_zero, List.set_cons_succ] at hS
            clear hc
            obtain ⟨a5, c5, rfl⟩ := hrow5.isSl
            refine ⟨_, rfl, ?_⟩
            refine hK.out _ _ ⟨(hS.get 1 rfl).cell 0 rfl, (hS.get 1 rfl).cell 1 rfl, (hS.get 1 rfl).cell 2 rfl⟩ (fun hHeld => ?_)
            clear hK K
            simp only [Act.put, List.setIfInBounds_toArray, List.set_cons_succ, List.set_cons_zero]
            refine wpAnyH_ready (rs := [10]) (by kernel_rfl) (by simp) ?_
            refine hcons rfl rfl (fun K hK => ?_) ?_
            · clear hHeld
              have hcall := (oeight_ok x5 (.slice a5 _ c5) _ (.slice (some ⟨g8, 0, none⟩) 2 2) [h.amount, h.id] _ (hS.get 0 rfl) hrow5 ((RowV.lit 25 1 g8 2 [.int .u64 h.amount, .int .u64 h.id] rfl (by decide)).read (hS.get 3 rfl)) (hS.apart 0 3 rfl rfl (by decide)) H8.out Hl4.out (by simp))
              refine owp_call rfl (by kernel_rfl) (args := #[.slice a5 _ c5, .slice (some ⟨g8, 0, none⟩) 2 2]) rfl hcall ?_
              clear hcall
              rintro e w6 ⟨v6, x6, rfl, hrow6, hc⟩
              replace hS := hS.call1 (N := []) 0 rfl hc
              try simp only [List.cons_append, List.nil_append, List.append_nil, List.set_cons_zero, List.set_cons_succ] at hS
              clear hc
              obtain ⟨a6, c6, rfl⟩ := hrow6.isSl
              refine ⟨_, rfl, ?_⟩
              refine hK.out _ _ ⟨(hS.get 1 rfl).cell 0 rfl, (hS.get 1 rfl).cell 1 rfl, (hS.get 1 rfl).cell 2 rfl⟩ (fun hHeld => ?_)
              clear hK K
              simp only [Act.put, List.setIfInBounds_toArray, List.set_cons_succ, List.set_cons_zero]
              refine htake (i := 11) (v := (.slice a6 (l2 ++ fours [h.channel] ++ eights [h.amount, h.id]).length c6)) rfl (by kernel_rfl) (by kernel_rfl) (by kernel_rfl) (fun _ _ _ h => h) (Or.inl ⟨by rfl, by (intro w hSw; (try dsimp only at hSw); (try obtain ⟨h1, h2, h3⟩ := hSw); go_simp; try with_reducible rfl)⟩) (by assumption) ?_; simp only [Act.put, List.setIfInBounds_toArray, List.set_cons_succ, List.set_cons_zero]
              refine wpAnyH_done (by kernel_rfl) ?_ _
              clear hHeld
              go_wp2_with fail
              go_roundw
              case rel =>
                refine ⟨j + 1, x6, by omega, by go_num, ?_, hS.pick [0] rfl (by decide)⟩
                rw [Hstep.out]
                exact hrow6
              case measure => simp [intOf]; omega
            exact AllReadyH.nil
          exact AllReadyH.nil
        exact AllReadyH.nil
      refine hcons rfl rfl (fun K hK => ?_) ?_
      · clear hHeld
        refine owp_bslice2 hS rfl rfl rfl rfl rfl ?_
        clear hS; intro g8 _ hS; try simp only [List.cons_append, List.nil_append, List.append_nil, List.set_cons_zero, List.set_cons_succ] at hS
        refine hK.out _ _ ⟨(hS.get 1 rfl).cell 0 rfl, (hS.get 1 rfl).cell 1 rfl, (hS.get 1 rfl).cell 2 rfl⟩ (fun hHeld => ?_)
        clear hK K
        simp only [Act.put, List.setIfInBounds_toArray, List.set_cons_succ, List.set_cons_zero]
        refine wpAnyH_ready (rs := [3]) (by kernel_rfl) (by simp) ?_
        refine hcons rfl rfl (fun K hK => ?_) ?_
        · clear hHeld
          refine owp_bslice1 (vs := [.int .u32 _]) hS rfl rfl (by rfl) (by decide) ?_
          clear hS; intro g4 _ hS; try simp only [List.cons_append, List.nil_append, List.append_nil, List.set_cons_zero, List.set_cons_succ] at hS
          refine hK.out _ _ ⟨(hS.get 1 rfl).cell 0 rfl, (hS.get 1 rfl).cell 1 rfl, (hS.get 1 rfl).cell 2 rfl⟩ (fun hHeld => ?_)
          clear hK K
          simp only [Act.put, List.setIfInBounds_toArray, List.set_cons_succ, List.set_cons_zero]
          refine wpAnyH_ready (rs := [4]) (by kernel_rfl) (by simp) ?_
          refine hcons rfl rfl (fun K hK => ?_) ?_
          · clear hHeld
            have hcall := (ofour_ok x' (.slice a0 l2.length c0) l2 (.slice (some ⟨g4, 0, none⟩) 1 1) [h.channel] _ (hS.get 0 rfl) hrow ((RowV.lit 24 1 g4 1 [.int .u32 h.channel] rfl (by decide)).read (hS.get 3 rfl)) (hS.apart 0 3 rfl rfl (by decide)) H4.out (by omega) (by simp))
            refine owp_call rfl (by kernel_rfl) (args := #[.slice a0 l2.length c0, .slice (some ⟨g4, 0, none⟩) 1 1]) rfl hcall ?_
            clear hcall
            rintro e w5 ⟨v5, x5, rfl, hrow5, hc⟩
            replace hS := hS.call1 (N := []) 0 rfl hc
            try simp only [List.cons_append, List.nil_append, List.append_nil, List.set_cons_zero, List.set_cons_succ] at hS
            clear hc
            obtain ⟨a5, c5, rfl⟩ := hrow5.isSl
            refine ⟨_, rfl, ?_⟩
            refine hK.out _ _ ⟨(hS.get 1 rfl).cell 0 rfl, (hS.get 1 rfl).cell 1 rfl, (hS.get 1 rfl).cell 2 rfl⟩ (fun hHeld => ?_)
            clear hK K
            simp only [Act.put, List.setIfInBounds_toArray, List.set_cons_succ, List.set_cons_zero]
            refine wpAnyH_ready (rs := [10]) (by kernel_rfl) (by simp) ?_
            refine hcons rfl rfl (fun K hK => ?_) ?_
            · clear hHeld
              have hcall := (oeight_ok x5 (.slice a5 _ c5) _ (.slice (some ⟨g8, 0, none⟩) 2 2) [h.amount, h.id] _ (hS.get 0 rfl) hrow5 ((RowV.lit 25 1 g8 2 [.int .u64 h.amount, .int .u64 h.id] rfl (by decide)).read (hS.get 2 rfl)) (hS.apart 0 2 rfl rfl (by decide)) H8.out Hl4.out (by simp))
              refine owp_call rfl (by kernel_rfl) (args := #[.slice a5 _ c5, .slice (some ⟨g8, 0, none⟩) 2 2]) rfl hcall ?_
              clear hcall
              rintro e w6 ⟨v6, x6, rfl, hrow6, hc⟩
              replace hS := hS.call1 (N := []) 0 rfl hc
              try simp only [List.cons_append, List.nil_append, List.append_nil, List.set_cons_zero, List.set_cons_succ] at hS
              clear hc
              obtain ⟨a6, c6, rfl⟩ := hrow6.isSl
              refine ⟨_, rfl, ?_⟩
              refine hK.out _ _ ⟨(hS.get 1 rfl).cell 0 rfl, (hS.get 1 rfl).cell 1 rfl, (hS.get 1 rfl).cell 2 rfl⟩ (fun hHeld => ?_)
              clear hK K
              simp only [Act.put, List.setIfInBounds_toArray, List.set_cons_succ, List.set_cons_zero]
              refine htake (i := 11) (v := (.slice a6 (l2 ++ fours [h.channel] ++ eights [h.amount, h.id]).length c6)) rfl (by kernel_rfl) (by kernel_rfl) (by kernel_rfl) (fun _ _ _ h => h) (Or.inl ⟨by rfl, by (intro w hSw; (try dsimp only at hSw); (try obtain ⟨h1, h2, h3⟩ := hSw); go_simp; try with_reducible rfl)⟩) (by assumption) ?_; simp only [Act.put, List.setIfInBounds_toArray, List.set_cons_succ, List.set_cons_zero]
              refine wpAnyH_done (by kernel_rfl) ?_ _
              clear hHeld
              replace hS := hS.pick [0, 1, 3, 2] rfl (by decide)
              go_wp2_with fail
              go_roundw
              case rel =>
                refine ⟨j + 1, x6, by omega, by go_num, ?_, hS.pick [0] rfl (by decide)⟩
                rw [Hstep.out]
                exact hrow6
              case measure => simp [intOf]; omega
            exact AllReadyH.nil
          exact AllReadyH.nil
        exact AllReadyH.nil
      exact AllReadyH.nil
    · have hjk : j = hs.length := by omega
      subst hjk
      rw [List.take_length] at hrow ⊢
      generalize l1 ++ hs.flatMap layHop = l2 at *
      go_wp2_with fail
      go_ret
      refine ⟨_, x', rfl, ?_, hS⟩
      rw [Hlay.out]
      exact hrow

end Go.Proofs.Ytjgphbdffhmmgaa
