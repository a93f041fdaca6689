/-
  A condition and an operation laid to bytes by the program.
-/
import Derived.Test.YtldmkafobbemjaaB6
namespace Go.Proofs.Ytldmkafobbemjaa
set_option linter.unusedSimpArgs false
set_option linter.unusedVariables false
open Go Go.RowKit
set_option maxRecDepth 100000
set_option maxHeartbeats 4000000

def layCond (c : Cond) : List UInt8 := (((enc 8 c.id ++ [UInt8.ofNat c.side.toNat]) ++ enc 8 c.amount) ++ c.hash) ++ enc 8 c.expiry
def layOp (o : Oop) : List UInt8 := (([UInt8.ofNat o.kind.toNat] ++ enc 8 o.amount) ++ enc 8 o.id) ++ layCond o.cond
theorem eights_one (a : Nat) : eights [a] = enc 8 a := by simp [eights]
structure Cond.Ok (c : Cond) : Prop where
  hash : c.hash.length = 32
  id : c.id < 2 ^ 64
  side : 0 ≤ c.side ∧ c.side ≤ 255
  amount : c.amount < 2 ^ 64
  expiry : c.expiry < 2 ^ 64
theorem layCond_length (c : Cond) (h : c.hash.length = 32) : (layCond c).length = 57 := by
  simp only [layCond, List.length_append, enc_length, h, List.length_cons, List.length_nil]

noncomputable def ops61 : Array Oper := regionOf 1 (Try.f52.body.getD .skip)

theorem one8 {n : Nat} (h : n < 2 ^ 64) : ∀ k, k ∈ [n] → k < 2 ^ 64 := by
  intro k hk
  simp only [List.mem_singleton] at hk
  subst hk
  exact h

theorem layCond_region (Q : Exit → Act → World → Prop) (hP' : ∀ c (a : Act) (d : Option Tmp) (v : Value) w, Q (.panic c) (a.put d v) w → Q (.panic c) a w) (c : Cond) (hc : c.Ok) (x : Ent) (a0 : Option Addr) (c0 : Nat) (l : List UInt8) (cs : List Value) (gs : Nat) (w w1 : World)
    (hv : RowV 5 1 (.slice a0 l.length c0) l.length (bs l) x) (hl : l.length ≤ 50000000) (hcs : cs = c.cells)
    (hS : St w (keys [x]) w1 [x, some (gs, cs, 86)])
    (hfin : ∀ {u5 u6 u7 u8 u9 u10 u11 u12 u13 u14 u15 u16 u17 u18 u19 u20 u21 u22 u23 u24 u25 u26 : Value} (a8 : Option Addr) (c8 : Nat) (x8 : Ent) (w' : World), St w (keys [x]) w' [x8] → RowV 5 1 (.slice a8 (l.length + 57) c8) (l.length + 57) (bs (l ++ layCond c)) x8 →
      Q .normal ⟨#[.slice a0 l.length c0, .agg cs.toArray, undef, .pointer (some ⟨gs, 0, none⟩), .slice a8 (l.length + 57) c8, u5, u6, u7, u8, u9, u10, u11, u12, u13, u14, u15, u16, u17, u18, u19, u20, u21, u22, u23, u24, u25, u26], []⟩ w') :
    (Code.region 1 ops61 true).wp Try.prog Q ⟨#[.slice a0 l.length c0, .agg cs.toArray, undef, .pointer (some ⟨gs, 0, none⟩), .slice none 0 0, undef, undef, undef, undef, undef, undef, undef, undef, undef, undef, undef, undef, undef, undef, undef, undef, undef, undef, undef, undef, undef, undef], []⟩ w1 := by
  have hP : ∀ {d : Option Tmp} {v : Value} c a w, Q (.panic c) (Act.put a d v) w → Q (.panic c) a w := fun c a w h => hP' c a _ _ w h
  have Hv := Lib.hid hv
  have Hhash := Lib.hid (show (bs c.hash).length = 32 by rw [bs_length, hc.hash])
  have hlen := Cond.len c hc.hash
  have H0 := Lib.hid (show cs[0]? = some (.int .u64 c.id) by rw [hcs]; rfl)
  have H1 := Lib.hid (show cs[1]? = some (.int .i64 c.side) by rw [hcs]; rfl)
  have H2 := Lib.hid (show cs[2]? = some (.int .u64 c.amount) by rw [hcs]; rfl)
  have H35 := Lib.hid (show cs[35]? = some (.int .u64 c.expiry) by rw [hcs]; simp [Cond.cells, List.getElem?_append, bs_length, hc.hash])
  have Hh := Lib.hid (show (cs.drop 3).take 32 = bs c.hash by rw [hcs]; simp [Cond.cells, List.take_append, bs_length, hc.hash])
  have hside := hc.side
  have Hside := Lib.hid (show bs [UInt8.ofNat c.side.toNat] = [.int .u8 c.side] by rw [B_small _ (by omega), Int.toNat_of_nonneg hside.1])
  have hws : IntKind.u8.wrap c.side = c.side := by rw [IntKind.wrap_u8]; omega
  have hwm : c.side % 256 = c.side := by omega
  have L1 := Lib.hid (show (l ++ enc 8 c.id).length = l.length + 8 by rw [List.length_append, enc_length])
  have L2 := Lib.hid (show (l ++ enc 8 c.id ++ [UInt8.ofNat c.side.toNat]).length = l.length + 9 by rw [List.length_append, L1.out]; rfl)
  have L3 := Lib.hid (show (l ++ enc 8 c.id ++ [UInt8.ofNat c.side.toNat] ++ enc 8 c.amount).length = l.length + 17 by rw [List.length_append, L2.out, enc_length])
  have L4 := Lib.hid (show (l ++ enc 8 c.id ++ [UInt8.ofNat c.side.toNat] ++ enc 8 c.amount ++ c.hash).length = l.length + 49 by rw [List.length_append, L3.out, hc.hash])
  have L5 := Lib.hid (show (l ++ enc 8 c.id ++ [UInt8.ofNat c.side.toNat] ++ enc 8 c.amount ++ c.hash ++ enc 8 c.expiry).length = l.length + 57 by rw [List.length_append, L4.out, enc_length])
  have Hfin := Lib.hid (show l ++ layCond c = l ++ enc 8 c.id ++ [UInt8.ofNat c.side.toNat] ++ enc 8 c.amount ++ c.hash ++ enc 8 c.expiry by simp [layCond, List.append_assoc])
  have Hn1 := Lib.hid (one8 hc.id)
  have Hn2 := Lib.hid (one8 hc.amount)
  have Hn3 := Lib.hid (one8 hc.expiry)
  have Hds := Lib.hid (show ∀ d, d ∈ [c.hash] → d.length = 32 by intro d hd; simp only [List.mem_singleton] at hd; subst hd; exact hc.hash)
  have Hway := Lib.hid (show wayCells [c.hash] = bs c.hash by simp [wayCells])
  clear hv hcs hc hlen
  have st_0 : ∀ (w' : World) (g1 : Nat) (a4 : Option Addr) (c4 : Nat) (x4 : Ent) (g2 : Nat) (a9 : Option Addr) (c9 : Nat) (x9 : Ent) (g3 : Nat) (a13 : Option Addr) (c13 : Nat) (x13 : Ent) (g4 : Nat) (a17 : Option Addr) (c17 : Nat) (x17 : Ent) (g5 : Nat) (a21 : Option Addr) (c21 : Nat) (x21 : Ent) (hS : St w (keys [x]) w' [x21, some (gs, cs, 86), some (g1, [.int .u64 c.id], 27), some (g2, bs [UInt8.ofNat c.side.toNat], 5), some (g3, [.int .u64 c.amount], 27), some (g4, bs c.hash, 50), some (g5, [.int .u64 c.expiry], 27)]) (hrow21 : RowV 5 1 (.slice a21 (l.length + 57) c21) (l.length + 57) (bs (l ++ enc 8 c.id ++ [UInt8.ofNat c.side.toNat] ++ enc 8 c.amount ++ c.hash ++ enc 8 c.expiry)) x21) (hHeld : (fun w' => (w'.cell? ⟨gs, 0, none⟩ = some (.int .u64 c.id) ∧ w'.cell? ⟨gs, 1, none⟩ = some (.int .i64 c.side) ∧ w'.cell? ⟨gs, 2, none⟩ = some (.int .u64 c.amount) ∧ w'.cell? ⟨gs, 35, none⟩ = some (.int .u64 c.expiry)) ∧ CellsAt w' ⟨gs, 3, none⟩ (bs c.hash)) w'), wpAnyH Try.prog Region.Mode.any ops61 Q (fun w' => (w'.cell? ⟨gs, 0, none⟩ = some (.int .u64 c.id) ∧ w'.cell? ⟨gs, 1, none⟩ = some (.int .i64 c.side) ∧ w'.cell? ⟨gs, 2, none⟩ = some (.int .u64 c.amount) ∧ w'.cell? ⟨gs, 35, none⟩ = some (.int .u64 c.expiry)) ∧ CellsAt w' ⟨gs, 3, none⟩ (bs c.hash)) 0 #[true, true, true, true, true, true, true, true, true, true, true, true, true, true, true, true, true, true, true, true, true, true, true] ⟨#[.slice a0 l.length c0, .agg cs.toArray, undef, .pointer (some ⟨gs, 0, none⟩), (.slice a21 (l.length + 57) c21), (.slice a0 l.length c0), (.pointer (some ⟨gs, 0, none⟩)), (.int .u64 c.id), .slice (some ⟨g1, 0, none⟩) 1 1, .slice a4 (l.length + 8) c4, (.pointer (some ⟨gs, 1, none⟩)), (.int .i64 c.side), (.int .u8 c.side), .slice (some ⟨g2, 0, none⟩) 1 1, .slice a9 (l.length + 9) c9, (.pointer (some ⟨gs, 2, none⟩)), (.int .u64 c.amount), .slice (some ⟨g3, 0, none⟩) 1 1, .slice a13 (l.length + 17) c13, (.pointer (some ⟨gs, 3, none⟩)), (.agg (bs c.hash).toArray), .slice (some ⟨g4, 0, none⟩) 1 1, .slice a17 (l.length + 49) c17, (.pointer (some ⟨gs, 35, none⟩)), (.int .u64 c.expiry), .slice (some ⟨g5, 0, none⟩) 1 1, .slice a21 (l.length + 57) c21], []⟩ w' := by
    intro w' g1 a4 c4 x4 g2 a9 c9 x9 g3 a13 c13 x13 g4 a17 c17 x17 g5 a21 c21 x21 hS hrow21 hHeld
    refine wpAnyH_done (by kernel_rfl) ?_ _
    exact hfin a21 c21 x21 w' (hS.pick [0] rfl (by decide)) (by rw [Hfin.out]; exact hrow21)
  have st_1 : ∀ (w' : World) (g1 : Nat) (a4 : Option Addr) (c4 : Nat) (x4 : Ent) (g2 : Nat) (a9 : Option Addr) (c9 : Nat) (x9 : Ent) (g3 : Nat) (a13 : Option Addr) (c13 : Nat) (x13 : Ent) (g4 : Nat) (a17 : Option Addr) (c17 : Nat) (x17 : Ent) (g5 : Nat) (hS : St w (keys [x]) w' [x17, some (gs, cs, 86), some (g1, [.int .u64 c.id], 27), some (g2, bs [UInt8.ofNat c.side.toNat], 5), some (g3, [.int .u64 c.amount], 27), some (g4, bs c.hash, 50), some (g5, [.int .u64 c.expiry], 27)]) (hrow17 : RowV 5 1 (.slice a17 (l.length + 49) c17) (l.length + 49) (bs (l ++ enc 8 c.id ++ [UInt8.ofNat c.side.toNat] ++ enc 8 c.amount ++ c.hash)) x17) (hHeld : (fun w' => (w'.cell? ⟨gs, 0, none⟩ = some (.int .u64 c.id) ∧ w'.cell? ⟨gs, 1, none⟩ = some (.int .i64 c.side) ∧ w'.cell? ⟨gs, 2, none⟩ = some (.int .u64 c.amount) ∧ w'.cell? ⟨gs, 35, none⟩ = some (.int .u64 c.expiry)) ∧ CellsAt w' ⟨gs, 3, none⟩ (bs c.hash)) w'), wpAnyH Try.prog Region.Mode.any ops61 Q (fun w' => (w'.cell? ⟨gs, 0, none⟩ = some (.int .u64 c.id) ∧ w'.cell? ⟨gs, 1, none⟩ = some (.int .i64 c.side) ∧ w'.cell? ⟨gs, 2, none⟩ = some (.int .u64 c.amount) ∧ w'.cell? ⟨gs, 35, none⟩ = some (.int .u64 c.expiry)) ∧ CellsAt w' ⟨gs, 3, none⟩ (bs c.hash)) 2 #[true, true, true, true, true, true, true, true, true, true, true, true, true, true, true, true, true, true, true, true, true, false, false] ⟨#[.slice a0 l.length c0, .agg cs.toArray, undef, .pointer (some ⟨gs, 0, none⟩), .slice none 0 0, (.slice a0 l.length c0), (.pointer (some ⟨gs, 0, none⟩)), (.int .u64 c.id), .slice (some ⟨g1, 0, none⟩) 1 1, .slice a4 (l.length + 8) c4, (.pointer (some ⟨gs, 1, none⟩)), (.int .i64 c.side), (.int .u8 c.side), .slice (some ⟨g2, 0, none⟩) 1 1, .slice a9 (l.length + 9) c9, (.pointer (some ⟨gs, 2, none⟩)), (.int .u64 c.amount), .slice (some ⟨g3, 0, none⟩) 1 1, .slice a13 (l.length + 17) c13, (.pointer (some ⟨gs, 3, none⟩)), (.agg (bs c.hash).toArray), .slice (some ⟨g4, 0, none⟩) 1 1, .slice a17 (l.length + 49) c17, (.pointer (some ⟨gs, 35, none⟩)), (.int .u64 c.expiry), .slice (some ⟨g5, 0, none⟩) 1 1, undef], []⟩ w' := by
    intro w' g1 a4 c4 x4 g2 a9 c9 x9 g3 a13 c13 x13 g4 a17 c17 x17 g5 hS hrow17 hHeld
    refine wpAnyH_ready (rs := [21]) (by kernel_rfl) (by simp) ?_
    refine hcons rfl rfl (fun K hK => ?_) ?_
    · clear hHeld
      have hcall := oeight_ok x17 (.slice a17 (l.length + 49) c17) (l ++ enc 8 c.id ++ [UInt8.ofNat c.side.toNat] ++ enc 8 c.amount ++ c.hash) (.slice (some ⟨g5, 0, none⟩) 1 1) [c.expiry] _ (hS.get 0 rfl) (by rw [L4.out]; exact hrow17) ((RowV.lit 27 1 g5 1 [.int .u64 c.expiry] rfl (by decide)).read (hS.get 6 rfl)) (hS.apart 0 6 rfl rfl (by decide)) Hn3.out (by rw [L4.out]; omega) (by simp)
      refine owp_call rfl (by kernel_rfl) (args := #[.slice a17 (l.length + 49) c17, .slice (some ⟨g5, 0, none⟩) 1 1]) rfl hcall ?_
      clear hcall
      rintro e w5 ⟨v21, x21, rfl, hrow21, hc⟩
      rw [eights_one, L5.out] at hrow21
      replace hS := hS.call1 (N := []) 0 rfl hc
      try simp only [List.cons_append, List.nil_append, List.append_nil, List.set_cons_zero, List.set_cons_succ] at hS
      clear hc
      obtain ⟨a21, c21, rfl⟩ := hrow21.isSl
      refine ⟨_, rfl, ?_⟩
      refine hK.out _ _ ⟨⟨(hS.get 1 rfl).cell 0 H0.out, (hS.get 1 rfl).cell 1 H1.out, (hS.get 1 rfl).cell 2 H2.out, (hS.get 1 rfl).cell 35 H35.out⟩, (hS.get 1 rfl).range 3 32 Hh.out⟩ (fun hHeld => ?_)
      clear hK K
      simp only [Act.put, List.setIfInBounds_toArray, List.set_cons_succ, List.set_cons_zero]
      refine htake (i := 22) (v := (.slice a21 (l.length + 57) c21)) rfl (by kernel_rfl) (by kernel_rfl) (by kernel_rfl) hP (Or.inl ⟨by rfl, by (intro w hSw; (try dsimp only at hSw); (try obtain ⟨⟨h1, h2, h3, h4⟩, _⟩ := hSw); go_simp; try with_reducible rfl)⟩) (by assumption) ?_; simp only [Act.put, List.setIfInBounds_toArray, List.set_cons_succ, List.set_cons_zero]
      exact wpAnyH_listed (by kernel_rfl) (st_0 _ g1 a4 c4 x4 g2 a9 c9 x9 g3 a13 c13 x13 g4 a17 c17 x17 g5 a21 c21 x21 hS hrow21 hHeld)
    exact AllReadyH.nil
  have st_2 : ∀ (w' : World) (g1 : Nat) (a4 : Option Addr) (c4 : Nat) (x4 : Ent) (g2 : Nat) (a9 : Option Addr) (c9 : Nat) (x9 : Ent) (g3 : Nat) (a13 : Option Addr) (c13 : Nat) (x13 : Ent) (g4 : Nat) (a17 : Option Addr) (c17 : Nat) (x17 : Ent) (hS : St w (keys [x]) w' [x17, some (gs, cs, 86), some (g1, [.int .u64 c.id], 27), some (g2, bs [UInt8.ofNat c.side.toNat], 5), some (g3, [.int .u64 c.amount], 27), some (g4, bs c.hash, 50)]) (hrow17 : RowV 5 1 (.slice a17 (l.length + 49) c17) (l.length + 49) (bs (l ++ enc 8 c.id ++ [UInt8.ofNat c.side.toNat] ++ enc 8 c.amount ++ c.hash)) x17) (hHeld : (fun w' => (w'.cell? ⟨gs, 0, none⟩ = some (.int .u64 c.id) ∧ w'.cell? ⟨gs, 1, none⟩ = some (.int .i64 c.side) ∧ w'.cell? ⟨gs, 2, none⟩ = some (.int .u64 c.amount) ∧ w'.cell? ⟨gs, 35, none⟩ = some (.int .u64 c.expiry)) ∧ CellsAt w' ⟨gs, 3, none⟩ (bs c.hash)) w'), wpAnyH Try.prog Region.Mode.any ops61 Q (fun w' => (w'.cell? ⟨gs, 0, none⟩ = some (.int .u64 c.id) ∧ w'.cell? ⟨gs, 1, none⟩ = some (.int .i64 c.side) ∧ w'.cell? ⟨gs, 2, none⟩ = some (.int .u64 c.amount) ∧ w'.cell? ⟨gs, 35, none⟩ = some (.int .u64 c.expiry)) ∧ CellsAt w' ⟨gs, 3, none⟩ (bs c.hash)) 3 #[true, true, true, true, true, true, true, true, true, true, true, true, true, true, true, true, true, true, true, true, false, false, false] ⟨#[.slice a0 l.length c0, .agg cs.toArray, undef, .pointer (some ⟨gs, 0, none⟩), .slice none 0 0, (.slice a0 l.length c0), (.pointer (some ⟨gs, 0, none⟩)), (.int .u64 c.id), .slice (some ⟨g1, 0, none⟩) 1 1, .slice a4 (l.length + 8) c4, (.pointer (some ⟨gs, 1, none⟩)), (.int .i64 c.side), (.int .u8 c.side), .slice (some ⟨g2, 0, none⟩) 1 1, .slice a9 (l.length + 9) c9, (.pointer (some ⟨gs, 2, none⟩)), (.int .u64 c.amount), .slice (some ⟨g3, 0, none⟩) 1 1, .slice a13 (l.length + 17) c13, (.pointer (some ⟨gs, 3, none⟩)), (.agg (bs c.hash).toArray), .slice (some ⟨g4, 0, none⟩) 1 1, .slice a17 (l.length + 49) c17, (.pointer (some ⟨gs, 35, none⟩)), (.int .u64 c.expiry), undef, undef], []⟩ w' := by
    intro w' g1 a4 c4 x4 g2 a9 c9 x9 g3 a13 c13 x13 g4 a17 c17 x17 hS hrow17 hHeld
    refine wpAnyH_ready (rs := [20]) (by kernel_rfl) (by simp) ?_
    refine hcons rfl rfl (fun K hK => ?_) ?_
    · clear hHeld
      refine owp_bslice1 (vs := [.int .u64 c.expiry]) hS rfl rfl (by rfl) (by decide) ?_
      clear hS; intro g5 _ hS; try simp only [List.cons_append, List.nil_append, List.append_nil, List.set_cons_zero, List.set_cons_succ] at hS
      refine hK.out _ _ ⟨⟨(hS.get 1 rfl).cell 0 H0.out, (hS.get 1 rfl).cell 1 H1.out, (hS.get 1 rfl).cell 2 H2.out, (hS.get 1 rfl).cell 35 H35.out⟩, (hS.get 1 rfl).range 3 32 Hh.out⟩ (fun hHeld => ?_)
      clear hK K
      simp only [Act.put, List.setIfInBounds_toArray, List.set_cons_succ, List.set_cons_zero]
      exact wpAnyH_listed (by kernel_rfl) (st_1 _ g1 a4 c4 x4 g2 a9 c9 x9 g3 a13 c13 x13 g4 a17 c17 x17 g5 hS hrow17 hHeld)
    exact AllReadyH.nil
  have st_3 : ∀ (w' : World) (g1 : Nat) (a4 : Option Addr) (c4 : Nat) (x4 : Ent) (g2 : Nat) (a9 : Option Addr) (c9 : Nat) (x9 : Ent) (g3 : Nat) (a13 : Option Addr) (c13 : Nat) (x13 : Ent) (g4 : Nat) (g5 : Nat) (hS : St w (keys [x]) w' [x13, some (gs, cs, 86), some (g1, [.int .u64 c.id], 27), some (g2, bs [UInt8.ofNat c.side.toNat], 5), some (g3, [.int .u64 c.amount], 27), some (g4, bs c.hash, 50), some (g5, [.int .u64 c.expiry], 27)]) (hrow13 : RowV 5 1 (.slice a13 (l.length + 17) c13) (l.length + 17) (bs (l ++ enc 8 c.id ++ [UInt8.ofNat c.side.toNat] ++ enc 8 c.amount)) x13) (hHeld : (fun w' => (w'.cell? ⟨gs, 0, none⟩ = some (.int .u64 c.id) ∧ w'.cell? ⟨gs, 1, none⟩ = some (.int .i64 c.side) ∧ w'.cell? ⟨gs, 2, none⟩ = some (.int .u64 c.amount) ∧ w'.cell? ⟨gs, 35, none⟩ = some (.int .u64 c.expiry)) ∧ CellsAt w' ⟨gs, 3, none⟩ (bs c.hash)) w'), wpAnyH Try.prog Region.Mode.any ops61 Q (fun w' => (w'.cell? ⟨gs, 0, none⟩ = some (.int .u64 c.id) ∧ w'.cell? ⟨gs, 1, none⟩ = some (.int .i64 c.side) ∧ w'.cell? ⟨gs, 2, none⟩ = some (.int .u64 c.amount) ∧ w'.cell? ⟨gs, 35, none⟩ = some (.int .u64 c.expiry)) ∧ CellsAt w' ⟨gs, 3, none⟩ (bs c.hash)) 3 #[true, true, true, true, true, true, true, true, true, true, true, true, true, true, true, true, true, false, true, true, true, false, false] ⟨#[.slice a0 l.length c0, .agg cs.toArray, undef, .pointer (some ⟨gs, 0, none⟩), .slice none 0 0, (.slice a0 l.length c0), (.pointer (some ⟨gs, 0, none⟩)), (.int .u64 c.id), .slice (some ⟨g1, 0, none⟩) 1 1, .slice a4 (l.length + 8) c4, (.pointer (some ⟨gs, 1, none⟩)), (.int .i64 c.side), (.int .u8 c.side), .slice (some ⟨g2, 0, none⟩) 1 1, .slice a9 (l.length + 9) c9, (.pointer (some ⟨gs, 2, none⟩)), (.int .u64 c.amount), .slice (some ⟨g3, 0, none⟩) 1 1, .slice a13 (l.length + 17) c13, (.pointer (some ⟨gs, 3, none⟩)), (.agg (bs c.hash).toArray), .slice (some ⟨g4, 0, none⟩) 1 1, undef, (.pointer (some ⟨gs, 35, none⟩)), (.int .u64 c.expiry), .slice (some ⟨g5, 0, none⟩) 1 1, undef], []⟩ w' := by
    intro w' g1 a4 c4 x4 g2 a9 c9 x9 g3 a13 c13 x13 g4 g5 hS hrow13 hHeld
    refine wpAnyH_ready (rs := [17]) (by kernel_rfl) (by simp) ?_
    refine hcons rfl rfl (fun K hK => ?_) ?_
    · clear hHeld
      have hcall := osum_ok x13 (.slice a13 (l.length + 17) c13) (l ++ enc 8 c.id ++ [UInt8.ofNat c.side.toNat] ++ enc 8 c.amount) (.slice (some ⟨g4, 0, none⟩) 1 1) [c.hash] _ (hS.get 0 rfl) (by rw [L3.out]; exact hrow13) (by rw [Hway.out]; exact (RowV.lit 50 32 g4 1 (bs c.hash) (by rw [Hhash.out]) (by decide)).read (hS.get 5 rfl)) (hS.apart 0 5 rfl rfl (by decide)) Hds.out (by rw [L3.out]; omega) (by simp)
      refine owp_call rfl (by kernel_rfl) (args := #[.slice a13 (l.length + 17) c13, .slice (some ⟨g4, 0, none⟩) 1 1]) rfl hcall ?_
      clear hcall
      rintro e w5 ⟨v17, x17, rfl, hrow17, hc⟩
      rw [show [c.hash].flatten = c.hash by simp, L4.out] at hrow17
      replace hS := hS.call1 (N := []) 0 rfl hc
      try simp only [List.cons_append, List.nil_append, List.append_nil, List.set_cons_zero, List.set_cons_succ] at hS
      clear hc
      obtain ⟨a17, c17, rfl⟩ := hrow17.isSl
      refine ⟨_, rfl, ?_⟩
      refine hK.out _ _ ⟨⟨(hS.get 1 rfl).cell 0 H0.out, (hS.get 1 rfl).cell 1 H1.out, (hS.get 1 rfl).cell 2 H2.out, (hS.get 1 rfl).cell 35 H35.out⟩, (hS.get 1 rfl).range 3 32 Hh.out⟩ (fun hHeld => ?_)
      clear hK K
      simp only [Act.put, List.setIfInBounds_toArray, List.set_cons_succ, List.set_cons_zero]
      exact wpAnyH_listed (by kernel_rfl) (st_1 _ g1 a4 c4 x4 g2 a9 c9 x9 g3 a13 c13 x13 g4 a17 c17 x17 g5 hS hrow17 hHeld)
    exact AllReadyH.nil
  have st_4 : ∀ (w' : World) (g1 : Nat) (a4 : Option Addr) (c4 : Nat) (x4 : Ent) (g2 : Nat) (a9 : Option Addr) (c9 : Nat) (x9 : Ent) (g3 : Nat) (a13 : Option Addr) (c13 : Nat) (x13 : Ent) (g4 : Nat) (hS : St w (keys [x]) w' [x13, some (gs, cs, 86), some (g1, [.int .u64 c.id], 27), some (g2, bs [UInt8.ofNat c.side.toNat], 5), some (g3, [.int .u64 c.amount], 27), some (g4, bs c.hash, 50)]) (hrow13 : RowV 5 1 (.slice a13 (l.length + 17) c13) (l.length + 17) (bs (l ++ enc 8 c.id ++ [UInt8.ofNat c.side.toNat] ++ enc 8 c.amount)) x13) (hHeld : (fun w' => (w'.cell? ⟨gs, 0, none⟩ = some (.int .u64 c.id) ∧ w'.cell? ⟨gs, 1, none⟩ = some (.int .i64 c.side) ∧ w'.cell? ⟨gs, 2, none⟩ = some (.int .u64 c.amount) ∧ w'.cell? ⟨gs, 35, none⟩ = some (.int .u64 c.expiry)) ∧ CellsAt w' ⟨gs, 3, none⟩ (bs c.hash)) w'), wpAnyH Try.prog Region.Mode.any ops61 Q (fun w' => (w'.cell? ⟨gs, 0, none⟩ = some (.int .u64 c.id) ∧ w'.cell? ⟨gs, 1, none⟩ = some (.int .i64 c.side) ∧ w'.cell? ⟨gs, 2, none⟩ = some (.int .u64 c.amount) ∧ w'.cell? ⟨gs, 35, none⟩ = some (.int .u64 c.expiry)) ∧ CellsAt w' ⟨gs, 3, none⟩ (bs c.hash)) 4 #[true, true, true, true, true, true, true, true, true, true, true, true, true, true, true, true, true, false, true, true, false, false, false] ⟨#[.slice a0 l.length c0, .agg cs.toArray, undef, .pointer (some ⟨gs, 0, none⟩), .slice none 0 0, (.slice a0 l.length c0), (.pointer (some ⟨gs, 0, none⟩)), (.int .u64 c.id), .slice (some ⟨g1, 0, none⟩) 1 1, .slice a4 (l.length + 8) c4, (.pointer (some ⟨gs, 1, none⟩)), (.int .i64 c.side), (.int .u8 c.side), .slice (some ⟨g2, 0, none⟩) 1 1, .slice a9 (l.length + 9) c9, (.pointer (some ⟨gs, 2, none⟩)), (.int .u64 c.amount), .slice (some ⟨g3, 0, none⟩) 1 1, .slice a13 (l.length + 17) c13, (.pointer (some ⟨gs, 3, none⟩)), (.agg (bs c.hash).toArray), .slice (some ⟨g4, 0, none⟩) 1 1, undef, (.pointer (some ⟨gs, 35, none⟩)), (.int .u64 c.expiry), undef, undef], []⟩ w' := by
    intro w' g1 a4 c4 x4 g2 a9 c9 x9 g3 a13 c13 x13 g4 hS hrow13 hHeld
    refine wpAnyH_ready (rs := [17, 20]) (by kernel_rfl) (by simp) ?_
    refine hcons rfl rfl (fun K hK => ?_) ?_
    · clear hHeld
      have hcall := osum_ok x13 (.slice a13 (l.length + 17) c13) (l ++ enc 8 c.id ++ [UInt8.ofNat c.side.toNat] ++ enc 8 c.amount) (.slice (some ⟨g4, 0, none⟩) 1 1) [c.hash] _ (hS.get 0 rfl) (by rw [L3.out]; exact hrow13) (by rw [Hway.out]; exact (RowV.lit 50 32 g4 1 (bs c.hash) (by rw [Hhash.out]) (by decide)).read (hS.get 5 rfl)) (hS.apart 0 5 rfl rfl (by decide)) Hds.out (by rw [L3.out]; omega) (by simp)
      refine owp_call rfl (by kernel_rfl) (args := #[.slice a13 (l.length + 17) c13, .slice (some ⟨g4, 0, none⟩) 1 1]) rfl hcall ?_
      clear hcall
      rintro e w5 ⟨v17, x17, rfl, hrow17, hc⟩
      rw [show [c.hash].flatten = c.hash by simp, L4.out] at hrow17
      replace hS := hS.call1 (N := []) 0 rfl hc
      try simp only [List.cons_append, List.nil_append, List.append_nil, List.set_cons_zero, List.set_cons_succ] at hS
      clear hc
      obtain ⟨a17, c17, rfl⟩ := hrow17.isSl
      refine ⟨_, rfl, ?_⟩
      refine hK.out _ _ ⟨⟨(hS.get 1 rfl).cell 0 H0.out, (hS.get 1 rfl).cell 1 H1.out, (hS.get 1 rfl).cell 2 H2.out, (hS.get 1 rfl).cell 35 H35.out⟩, (hS.get 1 rfl).range 3 32 Hh.out⟩ (fun hHeld => ?_)
      clear hK K
      simp only [Act.put, List.setIfInBounds_toArray, List.set_cons_succ, List.set_cons_zero]
      exact wpAnyH_listed (by kernel_rfl) (st_2 _ g1 a4 c4 x4 g2 a9 c9 x9 g3 a13 c13 x13 g4 a17 c17 x17 hS hrow17 hHeld)
    refine hcons rfl rfl (fun K hK => ?_) ?_
    · clear hHeld
      refine owp_bslice1 (vs := [.int .u64 c.expiry]) hS rfl rfl (by rfl) (by decide) ?_
      clear hS; intro g5 _ hS; try simp only [List.cons_append, List.nil_append, List.append_nil, List.set_cons_zero, List.set_cons_succ] at hS
      refine hK.out _ _ ⟨⟨(hS.get 1 rfl).cell 0 H0.out, (hS.get 1 rfl).cell 1 H1.out, (hS.get 1 rfl).cell 2 H2.out, (hS.get 1 rfl).cell 35 H35.out⟩, (hS.get 1 rfl).range 3 32 Hh.out⟩ (fun hHeld => ?_)
      clear hK K
      simp only [Act.put, List.setIfInBounds_toArray, List.set_cons_succ, List.set_cons_zero]
      exact wpAnyH_listed (by kernel_rfl) (st_3 _ g1 a4 c4 x4 g2 a9 c9 x9 g3 a13 c13 x13 g4 g5 hS hrow13 hHeld)
    exact AllReadyH.nil
  have st_5 : ∀ (w' : World) (g1 : Nat) (a4 : Option Addr) (c4 : Nat) (x4 : Ent) (g2 : Nat) (a9 : Option Addr) (c9 : Nat) (x9 : Ent) (g3 : Nat) (a13 : Option Addr) (c13 : Nat) (x13 : Ent) (g5 : Nat) (hS : St w (keys [x]) w' [x13, some (gs, cs, 86), some (g1, [.int .u64 c.id], 27), some (g2, bs [UInt8.ofNat c.side.toNat], 5), some (g3, [.int .u64 c.amount], 27), some (g5, [.int .u64 c.expiry], 27)]) (hrow13 : RowV 5 1 (.slice a13 (l.length + 17) c13) (l.length + 17) (bs (l ++ enc 8 c.id ++ [UInt8.ofNat c.side.toNat] ++ enc 8 c.amount)) x13) (hHeld : (fun w' => (w'.cell? ⟨gs, 0, none⟩ = some (.int .u64 c.id) ∧ w'.cell? ⟨gs, 1, none⟩ = some (.int .i64 c.side) ∧ w'.cell? ⟨gs, 2, none⟩ = some (.int .u64 c.amount) ∧ w'.cell? ⟨gs, 35, none⟩ = some (.int .u64 c.expiry)) ∧ CellsAt w' ⟨gs, 3, none⟩ (bs c.hash)) w'), wpAnyH Try.prog Region.Mode.any ops61 Q (fun w' => (w'.cell? ⟨gs, 0, none⟩ = some (.int .u64 c.id) ∧ w'.cell? ⟨gs, 1, none⟩ = some (.int .i64 c.side) ∧ w'.cell? ⟨gs, 2, none⟩ = some (.int .u64 c.amount) ∧ w'.cell? ⟨gs, 35, none⟩ = some (.int .u64 c.expiry)) ∧ CellsAt w' ⟨gs, 3, none⟩ (bs c.hash)) 4 #[true, true, true, true, true, true, true, true, true, true, true, true, true, true, true, true, false, false, true, true, true, false, false] ⟨#[.slice a0 l.length c0, .agg cs.toArray, undef, .pointer (some ⟨gs, 0, none⟩), .slice none 0 0, (.slice a0 l.length c0), (.pointer (some ⟨gs, 0, none⟩)), (.int .u64 c.id), .slice (some ⟨g1, 0, none⟩) 1 1, .slice a4 (l.length + 8) c4, (.pointer (some ⟨gs, 1, none⟩)), (.int .i64 c.side), (.int .u8 c.side), .slice (some ⟨g2, 0, none⟩) 1 1, .slice a9 (l.length + 9) c9, (.pointer (some ⟨gs, 2, none⟩)), (.int .u64 c.amount), .slice (some ⟨g3, 0, none⟩) 1 1, .slice a13 (l.length + 17) c13, (.pointer (some ⟨gs, 3, none⟩)), (.agg (bs c.hash).toArray), undef, undef, (.pointer (some ⟨gs, 35, none⟩)), (.int .u64 c.expiry), .slice (some ⟨g5, 0, none⟩) 1 1, undef], []⟩ w' := by
    intro w' g1 a4 c4 x4 g2 a9 c9 x9 g3 a13 c13 x13 g5 hS hrow13 hHeld
    refine wpAnyH_ready (rs := [16]) (by kernel_rfl) (by simp) ?_
    refine hcons rfl rfl (fun K hK => ?_) ?_
    · clear hHeld
      refine owp_bslice1 (vs := bs c.hash) hS rfl rfl Hhash.out (by decide) ?_
      clear hS; intro g4 _ hS; try simp only [List.cons_append, List.nil_append, List.append_nil, List.set_cons_zero, List.set_cons_succ] at hS
      refine hK.out _ _ ⟨⟨(hS.get 1 rfl).cell 0 H0.out, (hS.get 1 rfl).cell 1 H1.out, (hS.get 1 rfl).cell 2 H2.out, (hS.get 1 rfl).cell 35 H35.out⟩, (hS.get 1 rfl).range 3 32 Hh.out⟩ (fun hHeld => ?_)
      clear hK K
      simp only [Act.put, List.setIfInBounds_toArray, List.set_cons_succ, List.set_cons_zero]
      replace hS := hS.pick [0, 1, 2, 3, 4, 6, 5] rfl (by decide)
      exact wpAnyH_listed (by kernel_rfl) (st_3 _ g1 a4 c4 x4 g2 a9 c9 x9 g3 a13 c13 x13 g4 g5 hS hrow13 hHeld)
    exact AllReadyH.nil
  have st_6 : ∀ (w' : World) (g1 : Nat) (a4 : Option Addr) (c4 : Nat) (x4 : Ent) (g2 : Nat) (a9 : Option Addr) (c9 : Nat) (x9 : Ent) (g3 : Nat) (a13 : Option Addr) (c13 : Nat) (x13 : Ent) (hS : St w (keys [x]) w' [x13, some (gs, cs, 86), some (g1, [.int .u64 c.id], 27), some (g2, bs [UInt8.ofNat c.side.toNat], 5), some (g3, [.int .u64 c.amount], 27)]) (hrow13 : RowV 5 1 (.slice a13 (l.length + 17) c13) (l.length + 17) (bs (l ++ enc 8 c.id ++ [UInt8.ofNat c.side.toNat] ++ enc 8 c.amount)) x13) (hHeld : (fun w' => (w'.cell? ⟨gs, 0, none⟩ = some (.int .u64 c.id) ∧ w'.cell? ⟨gs, 1, none⟩ = some (.int .i64 c.side) ∧ w'.cell? ⟨gs, 2, none⟩ = some (.int .u64 c.amount) ∧ w'.cell? ⟨gs, 35, none⟩ = some (.int .u64 c.expiry)) ∧ CellsAt w' ⟨gs, 3, none⟩ (bs c.hash)) w'), wpAnyH Try.prog Region.Mode.any ops61 Q (fun w' => (w'.cell? ⟨gs, 0, none⟩ = some (.int .u64 c.id) ∧ w'.cell? ⟨gs, 1, none⟩ = some (.int .i64 c.side) ∧ w'.cell? ⟨gs, 2, none⟩ = some (.int .u64 c.amount) ∧ w'.cell? ⟨gs, 35, none⟩ = some (.int .u64 c.expiry)) ∧ CellsAt w' ⟨gs, 3, none⟩ (bs c.hash)) 5 #[true, true, true, true, true, true, true, true, true, true, true, true, true, true, true, true, false, false, true, true, false, false, false] ⟨#[.slice a0 l.length c0, .agg cs.toArray, undef, .pointer (some ⟨gs, 0, none⟩), .slice none 0 0, (.slice a0 l.length c0), (.pointer (some ⟨gs, 0, none⟩)), (.int .u64 c.id), .slice (some ⟨g1, 0, none⟩) 1 1, .slice a4 (l.length + 8) c4, (.pointer (some ⟨gs, 1, none⟩)), (.int .i64 c.side), (.int .u8 c.side), .slice (some ⟨g2, 0, none⟩) 1 1, .slice a9 (l.length + 9) c9, (.pointer (some ⟨gs, 2, none⟩)), (.int .u64 c.amount), .slice (some ⟨g3, 0, none⟩) 1 1, .slice a13 (l.length + 17) c13, (.pointer (some ⟨gs, 3, none⟩)), (.agg (bs c.hash).toArray), undef, undef, (.pointer (some ⟨gs, 35, none⟩)), (.int .u64 c.expiry), undef, undef], []⟩ w' := by
    intro w' g1 a4 c4 x4 g2 a9 c9 x9 g3 a13 c13 x13 hS hrow13 hHeld
    refine wpAnyH_ready (rs := [16, 20]) (by kernel_rfl) (by simp) ?_
    refine hcons rfl rfl (fun K hK => ?_) ?_
    · clear hHeld
      refine owp_bslice1 (vs := bs c.hash) hS rfl rfl Hhash.out (by decide) ?_
      clear hS; intro g4 _ hS; try simp only [List.cons_append, List.nil_append, List.append_nil, List.set_cons_zero, List.set_cons_succ] at hS
      refine hK.out _ _ ⟨⟨(hS.get 1 rfl).cell 0 H0.out, (hS.get 1 rfl).cell 1 H1.out, (hS.get 1 rfl).cell 2 H2.out, (hS.get 1 rfl).cell 35 H35.out⟩, (hS.get 1 rfl).range 3 32 Hh.out⟩ (fun hHeld => ?_)
      clear hK K
      simp only [Act.put, List.setIfInBounds_toArray, List.set_cons_succ, List.set_cons_zero]
      exact wpAnyH_listed (by kernel_rfl) (st_4 _ g1 a4 c4 x4 g2 a9 c9 x9 g3 a13 c13 x13 g4 hS hrow13 hHeld)
    refine hcons rfl rfl (fun K hK => ?_) ?_
    · clear hHeld
      refine owp_bslice1 (vs := [.int .u64 c.expiry]) hS rfl rfl (by rfl) (by decide) ?_
      clear hS; intro g5 _ hS; try simp only [List.cons_append, List.nil_append, List.append_nil, List.set_cons_zero, List.set_cons_succ] at hS
      refine hK.out _ _ ⟨⟨(hS.get 1 rfl).cell 0 H0.out, (hS.get 1 rfl).cell 1 H1.out, (hS.get 1 rfl).cell 2 H2.out, (hS.get 1 rfl).cell 35 H35.out⟩, (hS.get 1 rfl).range 3 32 Hh.out⟩ (fun hHeld => ?_)
      clear hK K
      simp only [Act.put, List.setIfInBounds_toArray, List.set_cons_succ, List.set_cons_zero]
      exact wpAnyH_listed (by kernel_rfl) (st_5 _ g1 a4 c4 x4 g2 a9 c9 x9 g3 a13 c13 x13 g5 hS hrow13 hHeld)
    exact AllReadyH.nil
  have st_7 : ∀ (w' : World) (g1 : Nat) (a4 : Option Addr) (c4 : Nat) (x4 : Ent) (g2 : Nat) (a9 : Option Addr) (c9 : Nat) (x9 : Ent) (g3 : Nat) (g4 : Nat) (g5 : Nat) (hS : St w (keys [x]) w' [x9, some (gs, cs, 86), some (g1, [.int .u64 c.id], 27), some (g2, bs [UInt8.ofNat c.side.toNat], 5), some (g3, [.int .u64 c.amount], 27), some (g4, bs c.hash, 50), some (g5, [.int .u64 c.expiry], 27)]) (hrow9 : RowV 5 1 (.slice a9 (l.length + 9) c9) (l.length + 9) (bs (l ++ enc 8 c.id ++ [UInt8.ofNat c.side.toNat])) x9) (hHeld : (fun w' => (w'.cell? ⟨gs, 0, none⟩ = some (.int .u64 c.id) ∧ w'.cell? ⟨gs, 1, none⟩ = some (.int .i64 c.side) ∧ w'.cell? ⟨gs, 2, none⟩ = some (.int .u64 c.amount) ∧ w'.cell? ⟨gs, 35, none⟩ = some (.int .u64 c.expiry)) ∧ CellsAt w' ⟨gs, 3, none⟩ (bs c.hash)) w'), wpAnyH Try.prog Region.Mode.any ops61 Q (fun w' => (w'.cell? ⟨gs, 0, none⟩ = some (.int .u64 c.id) ∧ w'.cell? ⟨gs, 1, none⟩ = some (.int .i64 c.side) ∧ w'.cell? ⟨gs, 2, none⟩ = some (.int .u64 c.amount) ∧ w'.cell? ⟨gs, 35, none⟩ = some (.int .u64 c.expiry)) ∧ CellsAt w' ⟨gs, 3, none⟩ (bs c.hash)) 4 #[true, true, true, true, true, true, true, true, true, true, true, true, true, false, true, true, true, false, true, true, true, false, false] ⟨#[.slice a0 l.length c0, .agg cs.toArray, undef, .pointer (some ⟨gs, 0, none⟩), .slice none 0 0, (.slice a0 l.length c0), (.pointer (some ⟨gs, 0, none⟩)), (.int .u64 c.id), .slice (some ⟨g1, 0, none⟩) 1 1, .slice a4 (l.length + 8) c4, (.pointer (some ⟨gs, 1, none⟩)), (.int .i64 c.side), (.int .u8 c.side), .slice (some ⟨g2, 0, none⟩) 1 1, .slice a9 (l.length + 9) c9, (.pointer (some ⟨gs, 2, none⟩)), (.int .u64 c.amount), .slice (some ⟨g3, 0, none⟩) 1 1, undef, (.pointer (some ⟨gs, 3, none⟩)), (.agg (bs c.hash).toArray), .slice (some ⟨g4, 0, none⟩) 1 1, undef, (.pointer (some ⟨gs, 35, none⟩)), (.int .u64 c.expiry), .slice (some ⟨g5, 0, none⟩) 1 1, undef], []⟩ w' := by
    intro w' g1 a4 c4 x4 g2 a9 c9 x9 g3 g4 g5 hS hrow9 hHeld
    refine wpAnyH_ready (rs := [13]) (by kernel_rfl) (by simp) ?_
    refine hcons rfl rfl (fun K hK => ?_) ?_
    · clear hHeld
      have hcall := oeight_ok x9 (.slice a9 (l.length + 9) c9) (l ++ enc 8 c.id ++ [UInt8.ofNat c.side.toNat]) (.slice (some ⟨g3, 0, none⟩) 1 1) [c.amount] _ (hS.get 0 rfl) (by rw [L2.out]; exact hrow9) ((RowV.lit 27 1 g3 1 [.int .u64 c.amount] rfl (by decide)).read (hS.get 4 rfl)) (hS.apart 0 4 rfl rfl (by decide)) Hn2.out (by rw [L2.out]; omega) (by simp)
      refine owp_call rfl (by kernel_rfl) (args := #[.slice a9 (l.length + 9) c9, .slice (some ⟨g3, 0, none⟩) 1 1]) rfl hcall ?_
      clear hcall
      rintro e w5 ⟨v13, x13, rfl, hrow13, hc⟩
      rw [eights_one, L3.out] at hrow13
      replace hS := hS.call1 (N := []) 0 rfl hc
      try simp only [List.cons_append, List.nil_append, List.append_nil, List.set_cons_zero, List.set_cons_succ] at hS
      clear hc
      obtain ⟨a13, c13, rfl⟩ := hrow13.isSl
      refine ⟨_, rfl, ?_⟩
      refine hK.out _ _ ⟨⟨(hS.get 1 rfl).cell 0 H0.out, (hS.get 1 rfl).cell 1 H1.out, (hS.get 1 rfl).cell 2 H2.out, (hS.get 1 rfl).cell 35 H35.out⟩, (hS.get 1 rfl).range 3 32 Hh.out⟩ (fun hHeld => ?_)
      clear hK K
      simp only [Act.put, List.setIfInBounds_toArray, List.set_cons_succ, List.set_cons_zero]
      exact wpAnyH_listed (by kernel_rfl) (st_3 _ g1 a4 c4 x4 g2 a9 c9 x9 g3 a13 c13 x13 g4 g5 hS hrow13 hHeld)
    exact AllReadyH.nil
  have st_8 : ∀ (w' : World) (g1 : Nat) (a4 : Option Addr) (c4 : Nat) (x4 : Ent) (g2 : Nat) (a9 : Option Addr) (c9 : Nat) (x9 : Ent) (g3 : Nat) (g4 : Nat) (hS : St w (keys [x]) w' [x9, some (gs, cs, 86), some (g1, [.int .u64 c.id], 27), some (g2, bs [UInt8.ofNat c.side.toNat], 5), some (g3, [.int .u64 c.amount], 27), some (g4, bs c.hash, 50)]) (hrow9 : RowV 5 1 (.slice a9 (l.length + 9) c9) (l.length + 9) (bs (l ++ enc 8 c.id ++ [UInt8.ofNat c.side.toNat])) x9) (hHeld : (fun w' => (w'.cell? ⟨gs, 0, none⟩ = some (.int .u64 c.id) ∧ w'.cell? ⟨gs, 1, none⟩ = some (.int .i64 c.side) ∧ w'.cell? ⟨gs, 2, none⟩ = some (.int .u64 c.amount) ∧ w'.cell? ⟨gs, 35, none⟩ = some (.int .u64 c.expiry)) ∧ CellsAt w' ⟨gs, 3, none⟩ (bs c.hash)) w'), wpAnyH Try.prog Region.Mode.any ops61 Q (fun w' => (w'.cell? ⟨gs, 0, none⟩ = some (.int .u64 c.id) ∧ w'.cell? ⟨gs, 1, none⟩ = some (.int .i64 c.side) ∧ w'.cell? ⟨gs, 2, none⟩ = some (.int .u64 c.amount) ∧ w'.cell? ⟨gs, 35, none⟩ = some (.int .u64 c.expiry)) ∧ CellsAt w' ⟨gs, 3, none⟩ (bs c.hash)) 5 #[true, true, true, true, true, true, true, true, true, true, true, true, true, false, true, true, true, false, true, true, false, false, false] ⟨#[.slice a0 l.length c0, .agg cs.toArray, undef, .pointer (some ⟨gs, 0, none⟩), .slice none 0 0, (.slice a0 l.length c0), (.pointer (some ⟨gs, 0, none⟩)), (.int .u64 c.id), .slice (some ⟨g1, 0, none⟩) 1 1, .slice a4 (l.length + 8) c4, (.pointer (some ⟨gs, 1, none⟩)), (.int .i64 c.side), (.int .u8 c.side), .slice (some ⟨g2, 0, none⟩) 1 1, .slice a9 (l.length + 9) c9, (.pointer (some ⟨gs, 2, none⟩)), (.int .u64 c.amount), .slice (some ⟨g3, 0, none⟩) 1 1, undef, (.pointer (some ⟨gs, 3, none⟩)), (.agg (bs c.hash).toArray), .slice (some ⟨g4, 0, none⟩) 1 1, undef, (.pointer (some ⟨gs, 35, none⟩)), (.int .u64 c.expiry), undef, undef], []⟩ w' := by
    intro w' g1 a4 c4 x4 g2 a9 c9 x9 g3 g4 hS hrow9 hHeld
    refine wpAnyH_ready (rs := [13, 20]) (by kernel_rfl) (by simp) ?_
    refine hcons rfl rfl (fun K hK => ?_) ?_
    · clear hHeld
      have hcall := oeight_ok x9 (.slice a9 (l.length + 9) c9) (l ++ enc 8 c.id ++ [UInt8.ofNat c.side.toNat]) (.slice (some ⟨g3, 0, none⟩) 1 1) [c.amount] _ (hS.get 0 rfl) (by rw [L2.out]; exact hrow9) ((RowV.lit 27 1 g3 1 [.int .u64 c.amount] rfl (by decide)).read (hS.get 4 rfl)) (hS.apart 0 4 rfl rfl (by decide)) Hn2.out (by rw [L2.out]; omega) (by simp)
      refine owp_call rfl (by kernel_rfl) (args := #[.slice a9 (l.length + 9) c9, .slice (some ⟨g3, 0, none⟩) 1 1]) rfl hcall ?_
      clear hcall
      rintro e w5 ⟨v13, x13, rfl, hrow13, hc⟩
      rw [eights_one, L3.out] at hrow13
      replace hS := hS.call1 (N := []) 0 rfl hc
      try simp only [List.cons_append, List.nil_append, List.append_nil, List.set_cons_zero, List.set_cons_succ] at hS
      clear hc
      obtain ⟨a13, c13, rfl⟩ := hrow13.isSl
      refine ⟨_, rfl, ?_⟩
      refine hK.out _ _ ⟨⟨(hS.get 1 rfl).cell 0 H0.out, (hS.get 1 rfl).cell 1 H1.out, (hS.get 1 rfl).cell 2 H2.out, (hS.get 1 rfl).cell 35 H35.out⟩, (hS.get 1 rfl).range 3 32 Hh.out⟩ (fun hHeld => ?_)
      clear hK K
      simp only [Act.put, List.setIfInBounds_toArray, List.set_cons_succ, List.set_cons_zero]
      exact wpAnyH_listed (by kernel_rfl) (st_4 _ g1 a4 c4 x4 g2 a9 c9 x9 g3 a13 c13 x13 g4 hS hrow13 hHeld)
    refine hcons rfl rfl (fun K hK => ?_) ?_
    · clear hHeld
      refine owp_bslice1 (vs := [.int .u64 c.expiry]) hS rfl rfl (by rfl) (by decide) ?_
      clear hS; intro g5 _ hS; try simp only [List.cons_append, List.nil_append, List.append_nil, List.set_cons_zero, List.set_cons_succ] at hS
      refine hK.out _ _ ⟨⟨(hS.get 1 rfl).cell 0 H0.out, (hS.get 1 rfl).cell 1 H1.out, (hS.get 1 rfl).cell 2 H2.out, (hS.get 1 rfl).cell 35 H35.out⟩, (hS.get 1 rfl).range 3 32 Hh.out⟩ (fun hHeld => ?_)
      clear hK K
      simp only [Act.put, List.setIfInBounds_toArray, List.set_cons_succ, List.set_cons_zero]
      exact wpAnyH_listed (by kernel_rfl) (st_7 _ g1 a4 c4 x4 g2 a9 c9 x9 g3 g4 g5 hS hrow9 hHeld)
    exact AllReadyH.nil
  have st_9 : ∀ (w' : World) (g1 : Nat) (a4 : Option Addr) (c4 : Nat) (x4 : Ent) (g2 : Nat) (a9 : Option Addr) (c9 : Nat) (x9 : Ent) (g3 : Nat) (g5 : Nat) (hS : St w (keys [x]) w' [x9, some (gs, cs, 86), some (g1, [.int .u64 c.id], 27), some (g2, bs [UInt8.ofNat c.side.toNat], 5), some (g3, [.int .u64 c.amount], 27), some (g5, [.int .u64 c.expiry], 27)]) (hrow9 : RowV 5 1 (.slice a9 (l.length + 9) c9) (l.length + 9) (bs (l ++ enc 8 c.id ++ [UInt8.ofNat c.side.toNat])) x9) (hHeld : (fun w' => (w'.cell? ⟨gs, 0, none⟩ = some (.int .u64 c.id) ∧ w'.cell? ⟨gs, 1, none⟩ = some (.int .i64 c.side) ∧ w'.cell? ⟨gs, 2, none⟩ = some (.int .u64 c.amount) ∧ w'.cell? ⟨gs, 35, none⟩ = some (.int .u64 c.expiry)) ∧ CellsAt w' ⟨gs, 3, none⟩ (bs c.hash)) w'), wpAnyH Try.prog Region.Mode.any ops61 Q (fun w' => (w'.cell? ⟨gs, 0, none⟩ = some (.int .u64 c.id) ∧ w'.cell? ⟨gs, 1, none⟩ = some (.int .i64 c.side) ∧ w'.cell? ⟨gs, 2, none⟩ = some (.int .u64 c.amount) ∧ w'.cell? ⟨gs, 35, none⟩ = some (.int .u64 c.expiry)) ∧ CellsAt w' ⟨gs, 3, none⟩ (bs c.hash)) 5 #[true, true, true, true, true, true, true, true, true, true, true, true, true, false, true, true, false, false, true, true, true, false, false] ⟨#[.slice a0 l.length c0, .agg cs.toArray, undef, .pointer (some ⟨gs, 0, none⟩), .slice none 0 0, (.slice a0 l.length c0), (.pointer (some ⟨gs, 0, none⟩)), (.int .u64 c.id), .slice (some ⟨g1, 0, none⟩) 1 1, .slice a4 (l.length + 8) c4, (.pointer (some ⟨gs, 1, none⟩)), (.int .i64 c.side), (.int .u8 c.side), .slice (some ⟨g2, 0, none⟩) 1 1, .slice a9 (l.length + 9) c9, (.pointer (some ⟨gs, 2, none⟩)), (.int .u64 c.amount), .slice (some ⟨g3, 0, none⟩) 1 1, undef, (.pointer (some ⟨gs, 3, none⟩)), (.agg (bs c.hash).toArray), undef, undef, (.pointer (some ⟨gs, 35, none⟩)), (.int .u64 c.expiry), .slice (some ⟨g5, 0, none⟩) 1 1, undef], []⟩ w' := by
    intro w' g1 a4 c4 x4 g2 a9 c9 x9 g3 g5 hS hrow9 hHeld
    refine wpAnyH_ready (rs := [13, 16]) (by kernel_rfl) (by simp) ?_
    refine hcons rfl rfl (fun K hK => ?_) ?_
    · clear hHeld
      have hcall := oeight_ok x9 (.slice a9 (l.length + 9) c9) (l ++ enc 8 c.id ++ [UInt8.ofNat c.side.toNat]) (.slice (some ⟨g3, 0, none⟩) 1 1) [c.amount] _ (hS.get 0 rfl) (by rw [L2.out]; exact hrow9) ((RowV.lit 27 1 g3 1 [.int .u64 c.amount] rfl (by decide)).read (hS.get 4 rfl)) (hS.apart 0 4 rfl rfl (by decide)) Hn2.out (by rw [L2.out]; omega) (by simp)
      refine owp_call rfl (by kernel_rfl) (args := #[.slice a9 (l.length + 9) c9, .slice (some ⟨g3, 0, none⟩) 1 1]) rfl hcall ?_
      clear hcall
      rintro e w5 ⟨v13, x13, rfl, hrow13, hc⟩
      rw [eights_one, L3.out] at hrow13
      replace hS := hS.call1 (N := []) 0 rfl hc
      try simp only [List.cons_append, List.nil_append, List.append_nil, List.set_cons_zero, List.set_cons_succ] at hS
      clear hc
      obtain ⟨a13, c13, rfl⟩ := hrow13.isSl
      refine ⟨_, rfl, ?_⟩
      refine hK.out _ _ ⟨⟨(hS.get 1 rfl).cell 0 H0.out, (hS.get 1 rfl).cell 1 H1.out, (hS.get 1 rfl).cell 2 H2.out, (hS.get 1 rfl).cell 35 H35.out⟩, (hS.get 1 rfl).range 3 32 Hh.out⟩ (fun hHeld => ?_)
      clear hK K
      simp only [Act.put, List.setIfInBounds_toArray, List.set_cons_succ, List.set_cons_zero]
      exact wpAnyH_listed (by kernel_rfl) (st_5 _ g1 a4 c4 x4 g2 a9 c9 x9 g3 a13 c13 x13 g5 hS hrow13 hHeld)
    refine hcons rfl rfl (fun K hK => ?_) ?_
    · clear hHeld
      refine owp_bslice1 (vs := bs c.hash) hS rfl rfl Hhash.out (by decide) ?_
      clear hS; intro g4 _ hS; try simp only [List.cons_append, List.nil_append, List.append_nil, List.set_cons_zero, List.set_cons_succ] at hS
      refine hK.out _ _ ⟨⟨(hS.get 1 rfl).cell 0 H0.out, (hS.get 1 rfl).cell 1 H1.out, (hS.get 1 rfl).cell 2 H2.out, (hS.get 1 rfl).cell 35 H35.out⟩, (hS.get 1 rfl).range 3 32 Hh.out⟩ (fun hHeld => ?_)
      clear hK K
      simp only [Act.put, List.setIfInBounds_toArray, List.set_cons_succ, List.set_cons_zero]
      replace hS := hS.pick [0, 1, 2, 3, 4, 6, 5] rfl (by decide)
      exact wpAnyH_listed (by kernel_rfl) (st_7 _ g1 a4 c4 x4 g2 a9 c9 x9 g3 g4 g5 hS hrow9 hHeld)
    exact AllReadyH.nil
  have st_10 : ∀ (w' : World) (g1 : Nat) (a4 : Option Addr) (c4 : Nat) (x4 : Ent) (g2 : Nat) (a9 : Option Addr) (c9 : Nat) (x9 : Ent) (g3 : Nat) (hS : St w (keys [x]) w' [x9, some (gs, cs, 86), some (g1, [.int .u64 c.id], 27), some (g2, bs [UInt8.ofNat c.side.toNat], 5), some (g3, [.int .u64 c.amount], 27)]) (hrow9 : RowV 5 1 (.slice a9 (l.length + 9) c9) (l.length + 9) (bs (l ++ enc 8 c.id ++ [UInt8.ofNat c.side.toNat])) x9) (hHeld : (fun w' => (w'.cell? ⟨gs, 0, none⟩ = some (.int .u64 c.id) ∧ w'.cell? ⟨gs, 1, none⟩ = some (.int .i64 c.side) ∧ w'.cell? ⟨gs, 2, none⟩ = some (.int .u64 c.amount) ∧ w'.cell? ⟨gs, 35, none⟩ = some (.int .u64 c.expiry)) ∧ CellsAt w' ⟨gs, 3, none⟩ (bs c.hash)) w'), wpAnyH Try.prog Region.Mode.any ops61 Q (fun w' => (w'.cell? ⟨gs, 0, none⟩ = some (.int .u64 c.id) ∧ w'.cell? ⟨gs, 1, none⟩ = some (.int .i64 c.side) ∧ w'.cell? ⟨gs, 2, none⟩ = some (.int .u64 c.amount) ∧ w'.cell? ⟨gs, 35, none⟩ = some (.int .u64 c.expiry)) ∧ CellsAt w' ⟨gs, 3, none⟩ (bs c.hash)) 6 #[true, true, true, true, true, true, true, true, true, true, true, true, true, false, true, true, false, false, true, true, false, false, false] ⟨#[.slice a0 l.length c0, .agg cs.toArray, undef, .pointer (some ⟨gs, 0, none⟩), .slice none 0 0, (.slice a0 l.length c0), (.pointer (some ⟨gs, 0, none⟩)), (.int .u64 c.id), .slice (some ⟨g1, 0, none⟩) 1 1, .slice a4 (l.length + 8) c4, (.pointer (some ⟨gs, 1, none⟩)), (.int .i64 c.side), (.int .u8 c.side), .slice (some ⟨g2, 0, none⟩) 1 1, .slice a9 (l.length + 9) c9, (.pointer (some ⟨gs, 2, none⟩)), (.int .u64 c.amount), .slice (some ⟨g3, 0, none⟩) 1 1, undef, (.pointer (some ⟨gs, 3, none⟩)), (.agg (bs c.hash).toArray), undef, undef, (.pointer (some ⟨gs, 35, none⟩)), (.int .u64 c.expiry), undef, undef], []⟩ w' := by
    intro w' g1 a4 c4 x4 g2 a9 c9 x9 g3 hS hrow9 hHeld
    refine wpAnyH_ready (rs := [13, 16, 20]) (by kernel_rfl) (by simp) ?_
    refine hcons rfl rfl (fun K hK => ?_) ?_
    · clear hHeld
      have hcall := oeight_ok x9 (.slice a9 (l.length + 9) c9) (l ++ enc 8 c.id ++ [UInt8.ofNat c.side.toNat]) (.slice (some ⟨g3, 0, none⟩) 1 1) [c.amount] _ (hS.get 0 rfl) (by rw [L2.out]; exact hrow9) ((RowV.lit 27 1 g3 1 [.int .u64 c.amount] rfl (by decide)).read (hS.get 4 rfl)) (hS.apart 0 4 rfl rfl (by decide)) Hn2.out (by rw [L2.out]; omega) (by simp)
      refine owp_call rfl (by kernel_rfl) (args := #[.slice a9 (l.length + 9) c9, .slice (some ⟨g3, 0, none⟩) 1 1]) rfl hcall ?_
      clear hcall
      rintro e w5 ⟨v13, x13, rfl, hrow13, hc⟩
      rw [eights_one, L3.out] at hrow13
      replace hS := hS.call1 (N := []) 0 rfl hc
      try simp only [List.cons_append, List.nil_append, List.append_nil, List.set_cons_zero, List.set_cons_succ] at hS
      clear hc
      obtain ⟨a13, c13, rfl⟩ := hrow13.isSl
      refine ⟨_, rfl, ?_⟩
      refine hK.out _ _ ⟨⟨(hS.get 1 rfl).cell 0 H0.out, (hS.get 1 rfl).cell 1 H1.out, (hS.get 1 rfl).cell 2 H2.out, (hS.get 1 rfl).cell 35 H35.out⟩, (hS.get 1 rfl).range 3 32 Hh.out⟩ (fun hHeld => ?_)
      clear hK K
      simp only [Act.put, List.setIfInBounds_toArray, List.set_cons_succ, List.set_cons_zero]
      exact wpAnyH_listed (by kernel_rfl) (st_6 _ g1 a4 c4 x4 g2 a9 c9 x9 g3 a13 c13 x13 hS hrow13 hHeld)
    refine hcons rfl rfl (fun K hK => ?_) ?_
    · clear hHeld
      refine owp_bslice1 (vs := bs c.hash) hS rfl rfl Hhash.out (by decide) ?_
      clear hS; intro g4 _ hS; try simp only [List.cons_append, List.nil_append, List.append_nil, List.set_cons_zero, List.set_cons_succ] at hS
      refine hK.out _ _ ⟨⟨(hS.get 1 rfl).cell 0 H0.out, (hS.get 1 rfl).cell 1 H1.out, (hS.get 1 rfl).cell 2 H2.out, (hS.get 1 rfl).cell 35 H35.out⟩, (hS.get 1 rfl).range 3 32 Hh.out⟩ (fun hHeld => ?_)
      clear hK K
      simp only [Act.put, List.setIfInBounds_toArray, List.set_cons_succ, List.set_cons_zero]
      exact wpAnyH_listed (by kernel_rfl) (st_8 _ g1 a4 c4 x4 g2 a9 c9 x9 g3 g4 hS hrow9 hHeld)
    refine hcons rfl rfl (fun K hK => ?_) ?_
    · clear hHeld
      refine owp_bslice1 (vs := [.int .u64 c.expiry]) hS rfl rfl (by rfl) (by decide) ?_
      clear hS; intro g5 _ hS; try simp only [List.cons_append, List.nil_append, List.append_nil, List.set_cons_zero, List.set_cons_succ] at hS
      refine hK.out _ _ ⟨⟨(hS.get 1 rfl).cell 0 H0.out, (hS.get 1 rfl).cell 1 H1.out, (hS.get 1 rfl).cell 2 H2.out, (hS.get 1 rfl).cell 35 H35.out⟩, (hS.get 1 rfl).range 3 32 Hh.out⟩ (fun hHeld => ?_)
      clear hK K
      simp only [Act.put, List.setIfInBounds_toArray, List.set_cons_succ, List.set_cons_zero]
      exact wpAnyH_listed (by kernel_rfl) (st_9 _ g1 a4 c4 x4 g2 a9 c9 x9 g3 g5 hS hrow9 hHeld)
    exact AllReadyH.nil
  have st_11 : ∀ (w' : World) (g1 : Nat) (a4 : Option Addr) (c4 : Nat) (x4 : Ent) (g2 : Nat) (a9 : Option Addr) (c9 : Nat) (x9 : Ent) (g4 : Nat) (g5 : Nat) (hS : St w (keys [x]) w' [x9, some (gs, cs, 86), some (g1, [.int .u64 c.id], 27), some (g2, bs [UInt8.ofNat c.side.toNat], 5), some (g4, bs c.hash, 50), some (g5, [.int .u64 c.expiry], 27)]) (hrow9 : RowV 5 1 (.slice a9 (l.length + 9) c9) (l.length + 9) (bs (l ++ enc 8 c.id ++ [UInt8.ofNat c.side.toNat])) x9) (hHeld : (fun w' => (w'.cell? ⟨gs, 0, none⟩ = some (.int .u64 c.id) ∧ w'.cell? ⟨gs, 1, none⟩ = some (.int .i64 c.side) ∧ w'.cell? ⟨gs, 2, none⟩ = some (.int .u64 c.amount) ∧ w'.cell? ⟨gs, 35, none⟩ = some (.int .u64 c.expiry)) ∧ CellsAt w' ⟨gs, 3, none⟩ (bs c.hash)) w'), wpAnyH Try.prog Region.Mode.any ops61 Q (fun w' => (w'.cell? ⟨gs, 0, none⟩ = some (.int .u64 c.id) ∧ w'.cell? ⟨gs, 1, none⟩ = some (.int .i64 c.side) ∧ w'.cell? ⟨gs, 2, none⟩ = some (.int .u64 c.amount) ∧ w'.cell? ⟨gs, 35, none⟩ = some (.int .u64 c.expiry)) ∧ CellsAt w' ⟨gs, 3, none⟩ (bs c.hash)) 5 #[true, true, true, true, true, true, true, true, true, true, true, true, false, false, true, true, true, false, true, true, true, false, false] ⟨#[.slice a0 l.length c0, .agg cs.toArray, undef, .pointer (some ⟨gs, 0, none⟩), .slice none 0 0, (.slice a0 l.length c0), (.pointer (some ⟨gs, 0, none⟩)), (.int .u64 c.id), .slice (some ⟨g1, 0, none⟩) 1 1, .slice a4 (l.length + 8) c4, (.pointer (some ⟨gs, 1, none⟩)), (.int .i64 c.side), (.int .u8 c.side), .slice (some ⟨g2, 0, none⟩) 1 1, .slice a9 (l.length + 9) c9, (.pointer (some ⟨gs, 2, none⟩)), (.int .u64 c.amount), undef, undef, (.pointer (some ⟨gs, 3, none⟩)), (.agg (bs c.hash).toArray), .slice (some ⟨g4, 0, none⟩) 1 1, undef, (.pointer (some ⟨gs, 35, none⟩)), (.int .u64 c.expiry), .slice (some ⟨g5, 0, none⟩) 1 1, undef], []⟩ w' := by
    intro w' g1 a4 c4 x4 g2 a9 c9 x9 g4 g5 hS hrow9 hHeld
    refine wpAnyH_ready (rs := [12]) (by kernel_rfl) (by simp) ?_
    refine hcons rfl rfl (fun K hK => ?_) ?_
    · clear hHeld
      refine owp_bslice1 (vs := [.int .u64 c.amount]) hS rfl rfl (by rfl) (by decide) ?_
      clear hS; intro g3 _ hS; try simp only [List.cons_append, List.nil_append, List.append_nil, List.set_cons_zero, List.set_cons_succ] at hS
      refine hK.out _ _ ⟨⟨(hS.get 1 rfl).cell 0 H0.out, (hS.get 1 rfl).cell 1 H1.out, (hS.get 1 rfl).cell 2 H2.out, (hS.get 1 rfl).cell 35 H35.out⟩, (hS.get 1 rfl).range 3 32 Hh.out⟩ (fun hHeld => ?_)
      clear hK K
      simp only [Act.put, List.setIfInBounds_toArray, List.set_cons_succ, List.set_cons_zero]
      replace hS := hS.pick [0, 1, 2, 3, 6, 4, 5] rfl (by decide)
      exact wpAnyH_listed (by kernel_rfl) (st_7 _ g1 a4 c4 x4 g2 a9 c9 x9 g3 g4 g5 hS hrow9 hHeld)
    exact AllReadyH.nil
  have st_12 : ∀ (w' : World) (g1 : Nat) (a4 : Option Addr) (c4 : Nat) (x4 : Ent) (g2 : Nat) (a9 : Option Addr) (c9 : Nat) (x9 : Ent) (g4 : Nat) (hS : St w (keys [x]) w' [x9, some (gs, cs, 86), some (g1, [.int .u64 c.id], 27), some (g2, bs [UInt8.ofNat c.side.toNat], 5), some (g4, bs c.hash, 50)]) (hrow9 : RowV 5 1 (.slice a9 (l.length + 9) c9) (l.length + 9) (bs (l ++ enc 8 c.id ++ [UInt8.ofNat c.side.toNat])) x9) (hHeld : (fun w' => (w'.cell? ⟨gs, 0, none⟩ = some (.int .u64 c.id) ∧ w'.cell? ⟨gs, 1, none⟩ = some (.int .i64 c.side) ∧ w'.cell? ⟨gs, 2, none⟩ = some (.int .u64 c.amount) ∧ w'.cell? ⟨gs, 35, none⟩ = some (.int .u64 c.expiry)) ∧ CellsAt w' ⟨gs, 3, none⟩ (bs c.hash)) w'), wpAnyH Try.prog Region.Mode.any ops61 Q (fun w' => (w'.cell? ⟨gs, 0, none⟩ = some (.int .u64 c.id) ∧ w'.cell? ⟨gs, 1, none⟩ = some (.int .i64 c.side) ∧ w'.cell? ⟨gs, 2, none⟩ = some (.int .u64 c.amount) ∧ w'.cell? ⟨gs, 35, none⟩ = some (.int .u64 c.expiry)) ∧ CellsAt w' ⟨gs, 3, none⟩ (bs c.hash)) 6 #[true, true, true, true, true, true, true, true, true, true, true, true, false, false, true, true, true, false, true, true, false, false, false] ⟨#[.slice a0 l.length c0, .agg cs.toArray, undef, .pointer (some ⟨gs, 0, none⟩), .slice none 0 0, (.slice a0 l.length c0), (.pointer (some ⟨gs, 0, none⟩)), (.int .u64 c.id), .slice (some ⟨g1, 0, none⟩) 1 1, .slice a4 (l.length + 8) c4, (.pointer (some ⟨gs, 1, none⟩)), (.int .i64 c.side), (.int .u8 c.side), .slice (some ⟨g2, 0, none⟩) 1 1, .slice a9 (l.length + 9) c9, (.pointer (some ⟨gs, 2, none⟩)), (.int .u64 c.amount), undef, undef, (.pointer (some ⟨gs, 3, none⟩)), (.agg (bs c.hash).toArray), .slice (some ⟨g4, 0, none⟩) 1 1, undef, (.pointer (some ⟨gs, 35, none⟩)), (.int .u64 c.expiry), undef, undef], []⟩ w' := by
    intro w' g1 a4 c4 x4 g2 a9 c9 x9 g4 hS hrow9 hHeld
    refine wpAnyH_ready (rs := [12, 20]) (by kernel_rfl) (by simp) ?_
    refine hcons rfl rfl (fun K hK => ?_) ?_
    · clear hHeld
      refine owp_bslice1 (vs := [.int .u64 c.amount]) hS rfl rfl (by rfl) (by decide) ?_
      clear hS; intro g3 _ hS; try simp only [List.cons_append, List.nil_append, List.append_nil, List.set_cons_zero, List.set_cons_succ] at hS
      refine hK.out _ _ ⟨⟨(hS.get 1 rfl).cell 0 H0.out, (hS.get 1 rfl).cell 1 H1.out, (hS.get 1 rfl).cell 2 H2.out, (hS.get 1 rfl).cell 35 H35.out⟩, (hS.get 1 rfl).range 3 32 Hh.out⟩ (fun hHeld => ?_)
      clear hK K
      simp only [Act.put, List.setIfInBounds_toArray, List.set_cons_succ, List.set_cons_zero]
      replace hS := hS.pick [0, 1, 2, 3, 5, 4] rfl (by decide)
      exact wpAnyH_listed (by kernel_rfl) (st_8 _ g1 a4 c4 x4 g2 a9 c9 x9 g3 g4 hS hrow9 hHeld)
    refine hcons rfl rfl (fun K hK => ?_) ?_
    · clear hHeld
      refine owp_bslice1 (vs := [.int .u64 c.expiry]) hS rfl rfl (by rfl) (by decide) ?_
      clear hS; intro g5 _ hS; try simp only [List.cons_append, List.nil_append, List.append_nil, List.set_cons_zero, List.set_cons_succ] at hS
      refine hK.out _ _ ⟨⟨(hS.get 1 rfl).cell 0 H0.out, (hS.get 1 rfl).cell 1 H1.out, (hS.get 1 rfl).cell 2 H2.out, (hS.get 1 rfl).cell 35 H35.out⟩, (hS.get 1 rfl).range 3 32 Hh.out⟩ (fun hHeld => ?_)
      clear hK K
      simp only [Act.put, List.setIfInBounds_toArray, List.set_cons_succ, List.set_cons_zero]
      exact wpAnyH_listed (by kernel_rfl) (st_11 _ g1 a4 c4 x4 g2 a9 c9 x9 g4 g5 hS hrow9 hHeld)
    exact AllReadyH.nil
  have st_13 : ∀ (w' : World) (g1 : Nat) (a4 : Option Addr) (c4 : Nat) (x4 : Ent) (g2 : Nat) (a9 : Option Addr) (c9 : Nat) (x9 : Ent) (g5 : Nat) (hS : St w (keys [x]) w' [x9, some (gs, cs, 86), some (g1, [.int .u64 c.id], 27), some (g2, bs [UInt8.ofNat c.side.toNat], 5), some (g5, [.int .u64 c.expiry], 27)]) (hrow9 : RowV 5 1 (.slice a9 (l.length + 9) c9) (l.length + 9) (bs (l ++ enc 8 c.id ++ [UInt8.ofNat c.side.toNat])) x9) (hHeld : (fun w' => (w'.cell? ⟨gs, 0, none⟩ = some (.int .u64 c.id) ∧ w'.cell? ⟨gs, 1, none⟩ = some (.int .i64 c.side) ∧ w'.cell? ⟨gs, 2, none⟩ = some (.int .u64 c.amount) ∧ w'.cell? ⟨gs, 35, none⟩ = some (.int .u64 c.expiry)) ∧ CellsAt w' ⟨gs, 3, none⟩ (bs c.hash)) w'), wpAnyH Try.prog Region.Mode.any ops61 Q (fun w' => (w'.cell? ⟨gs, 0, none⟩ = some (.int .u64 c.id) ∧ w'.cell? ⟨gs, 1, none⟩ = some (.int .i64 c.side) ∧ w'.cell? ⟨gs, 2, none⟩ = some (.int .u64 c.amount) ∧ w'.cell? ⟨gs, 35, none⟩ = some (.int .u64 c.expiry)) ∧ CellsAt w' ⟨gs, 3, none⟩ (bs c.hash)) 6 #[true, true, true, true, true, true, true, true, true, true, true, true, false, false, true, true, false, false, true, true, true, false, false] ⟨#[.slice a0 l.length c0, .agg cs.toArray, undef, .pointer (some ⟨gs, 0, none⟩), .slice none 0 0, (.slice a0 l.length c0), (.pointer (some ⟨gs, 0, none⟩)), (.int .u64 c.id), .slice (some ⟨g1, 0, none⟩) 1 1, .slice a4 (l.length + 8) c4, (.pointer (some ⟨gs, 1, none⟩)), (.int .i64 c.side), (.int .u8 c.side), .slice (some ⟨g2, 0, none⟩) 1 1, .slice a9 (l.length + 9) c9, (.pointer (some ⟨gs, 2, none⟩)), (.int .u64 c.amount), undef, undef, (.pointer (some ⟨gs, 3, none⟩)), (.agg (bs c.hash).toArray), undef, undef, (.pointer (some ⟨gs, 35, none⟩)), (.int .u64 c.expiry), .slice (some ⟨g5, 0, none⟩) 1 1, undef], []⟩ w' := by
    intro w' g1 a4 c4 x4 g2 a9 c9 x9 g5 hS hrow9 hHeld
    refine wpAnyH_ready (rs := [12, 16]) (by kernel_rfl) (by simp) ?_
    refine hcons rfl rfl (fun K hK => ?_) ?_
    · clear hHeld
      refine owp_bslice1 (vs := [.int .u64 c.amount]) hS rfl rfl (by rfl) (by decide) ?_
      clear hS; intro g3 _ hS; try simp only [List.cons_append, List.nil_append, List.append_nil, List.set_cons_zero, List.set_cons_succ] at hS
      refine hK.out _ _ ⟨⟨(hS.get 1 rfl).cell 0 H0.out, (hS.get 1 rfl).cell 1 H1.out, (hS.get 1 rfl).cell 2 H2.out, (hS.get 1 rfl).cell 35 H35.out⟩, (hS.get 1 rfl).range 3 32 Hh.out⟩ (fun hHeld => ?_)
      clear hK K
      simp only [Act.put, List.setIfInBounds_toArray, List.set_cons_succ, List.set_cons_zero]
      replace hS := hS.pick [0, 1, 2, 3, 5, 4] rfl (by decide)
      exact wpAnyH_listed (by kernel_rfl) (st_9 _ g1 a4 c4 x4 g2 a9 c9 x9 g3 g5 hS hrow9 hHeld)
    refine hcons rfl rfl (fun K hK => ?_) ?_
    · clear hHeld
      refine owp_bslice1 (vs := bs c.hash) hS rfl rfl Hhash.out (by decide) ?_
      clear hS; intro g4 _ hS; try simp only [List.cons_append, List.nil_append, List.append_nil, List.set_cons_zero, List.set_cons_succ] at hS
      refine hK.out _ _ ⟨⟨(hS.get 1 rfl).cell 0 H0.out, (hS.get 1 rfl).cell 1 H1.out, (hS.get 1 rfl).cell 2 H2.out, (hS.get 1 rfl).cell 35 H35.out⟩, (hS.get 1 rfl).range 3 32 Hh.out⟩ (fun hHeld => ?_)
      clear hK K
      simp only [Act.put, List.setIfInBounds_toArray, List.set_cons_succ, List.set_cons_zero]
      replace hS := hS.pick [0, 1, 2, 3, 5, 4] rfl (by decide)
      exact wpAnyH_listed (by kernel_rfl) (st_11 _ g1 a4 c4 x4 g2 a9 c9 x9 g4 g5 hS hrow9 hHeld)
    exact AllReadyH.nil
  have st_14 : ∀ (w' : World) (g1 : Nat) (a4 : Option Addr) (c4 : Nat) (x4 : Ent) (g2 : Nat) (a9 : Option Addr) (c9 : Nat) (x9 : Ent) (hS : St w (keys [x]) w' [x9, some (gs, cs, 86), some (g1, [.int .u64 c.id], 27), some (g2, bs [UInt8.ofNat c.side.toNat], 5)]) (hrow9 : RowV 5 1 (.slice a9 (l.length + 9) c9) (l.length + 9) (bs (l ++ enc 8 c.id ++ [UInt8.ofNat c.side.toNat])) x9) (hHeld : (fun w' => (w'.cell? ⟨gs, 0, none⟩ = some (.int .u64 c.id) ∧ w'.cell? ⟨gs, 1, none⟩ = some (.int .i64 c.side) ∧ w'.cell? ⟨gs, 2, none⟩ = some (.int .u64 c.amount) ∧ w'.cell? ⟨gs, 35, none⟩ = some (.int .u64 c.expiry)) ∧ CellsAt w' ⟨gs, 3, none⟩ (bs c.hash)) w'), wpAnyH Try.prog Region.Mode.any ops61 Q (fun w' => (w'.cell? ⟨gs, 0, none⟩ = some (.int .u64 c.id) ∧ w'.cell? ⟨gs, 1, none⟩ = some (.int .i64 c.side) ∧ w'.cell? ⟨gs, 2, none⟩ = some (.int .u64 c.amount) ∧ w'.cell? ⟨gs, 35, none⟩ = some (.int .u64 c.expiry)) ∧ CellsAt w' ⟨gs, 3, none⟩ (bs c.hash)) 7 #[true, true, true, true, true, true, true, true, true, true, true, true, false, false, true, true, false, false, true, true, false, false, false] ⟨#[.slice a0 l.length c0, .agg cs.toArray, undef, .pointer (some ⟨gs, 0, none⟩), .slice none 0 0, (.slice a0 l.length c0), (.pointer (some ⟨gs, 0, none⟩)), (.int .u64 c.id), .slice (some ⟨g1, 0, none⟩) 1 1, .slice a4 (l.length + 8) c4, (.pointer (some ⟨gs, 1, none⟩)), (.int .i64 c.side), (.int .u8 c.side), .slice (some ⟨g2, 0, none⟩) 1 1, .slice a9 (l.length + 9) c9, (.pointer (some ⟨gs, 2, none⟩)), (.int .u64 c.amount), undef, undef, (.pointer (some ⟨gs, 3, none⟩)), (.agg (bs c.hash).toArray), undef, undef, (.pointer (some ⟨gs, 35, none⟩)), (.int .u64 c.expiry), undef, undef], []⟩ w' := by
    intro w' g1 a4 c4 x4 g2 a9 c9 x9 hS hrow9 hHeld
    refine wpAnyH_ready (rs := [12, 16, 20]) (by kernel_rfl) (by simp) ?_
    refine hcons rfl rfl (fun K hK => ?_) ?_
    · clear hHeld
      refine owp_bslice1 (vs := [.int .u64 c.amount]) hS rfl rfl (by rfl) (by decide) ?_
      clear hS; intro g3 _ hS; try simp only [List.cons_append, List.nil_append, List.append_nil, List.set_cons_zero, List.set_cons_succ] at hS
      refine hK.out _ _ ⟨⟨(hS.get 1 rfl).cell 0 H0.out, (hS.get 1 rfl).cell 1 H1.out, (hS.get 1 rfl).cell 2 H2.out, (hS.get 1 rfl).cell 35 H35.out⟩, (hS.get 1 rfl).range 3 32 Hh.out⟩ (fun hHeld => ?_)
      clear hK K
      simp only [Act.put, List.setIfInBounds_toArray, List.set_cons_succ, List.set_cons_zero]
      exact wpAnyH_listed (by kernel_rfl) (st_10 _ g1 a4 c4 x4 g2 a9 c9 x9 g3 hS hrow9 hHeld)
    refine hcons rfl rfl (fun K hK => ?_) ?_
    · clear hHeld
      refine owp_bslice1 (vs := bs c.hash) hS rfl rfl Hhash.out (by decide) ?_
      clear hS; intro g4 _ hS; try simp only [List.cons_append, List.nil_append, List.append_nil, List.set_cons_zero, List.set_cons_succ] at hS
      refine hK.out _ _ ⟨⟨(hS.get 1 rfl).cell 0 H0.out, (hS.get 1 rfl).cell 1 H1.out, (hS.get 1 rfl).cell 2 H2.out, (hS.get 1 rfl).cell 35 H35.out⟩, (hS.get 1 rfl).range 3 32 Hh.out⟩ (fun hHeld => ?_)
      clear hK K
      simp only [Act.put, List.setIfInBounds_toArray, List.set_cons_succ, List.set_cons_zero]
      exact wpAnyH_listed (by kernel_rfl) (st_12 _ g1 a4 c4 x4 g2 a9 c9 x9 g4 hS hrow9 hHeld)
    refine hcons rfl rfl (fun K hK => ?_) ?_
    · clear hHeld
      refine owp_bslice1 (vs := [.int .u64 c.expiry]) hS rfl rfl (by rfl) (by decide) ?_
      clear hS; intro g5 _ hS; try simp only [List.cons_append, List.nil_append, List.append_nil, List.set_cons_zero, List.set_cons_succ] at hS
      refine hK.out _ _ ⟨⟨(hS.get 1 rfl).cell 0 H0.out, (hS.get 1 rfl).cell 1 H1.out, (hS.get 1 rfl).cell 2 H2.out, (hS.get 1 rfl).cell 35 H35.out⟩, (hS.get 1 rfl).range 3 32 Hh.out⟩ (fun hHeld => ?_)
      clear hK K
      simp only [Act.put, List.setIfInBounds_toArray, List.set_cons_succ, List.set_cons_zero]
      exact wpAnyH_listed (by kernel_rfl) (st_13 _ g1 a4 c4 x4 g2 a9 c9 x9 g5 hS hrow9 hHeld)
    exact AllReadyH.nil
  have st_15 : ∀ (w' : World) (g1 : Nat) (a4 : Option Addr) (c4 : Nat) (x4 : Ent) (g2 : Nat) (g3 : Nat) (g4 : Nat) (g5 : Nat) (hS : St w (keys [x]) w' [x4, some (gs, cs, 86), some (g1, [.int .u64 c.id], 27), some (g2, bs [UInt8.ofNat c.side.toNat], 5), some (g3, [.int .u64 c.amount], 27), some (g4, bs c.hash, 50), some (g5, [.int .u64 c.expiry], 27)]) (hrow4 : RowV 5 1 (.slice a4 (l.length + 8) c4) (l.length + 8) (bs (l ++ enc 8 c.id)) x4) (hHeld : (fun w' => (w'.cell? ⟨gs, 0, none⟩ = some (.int .u64 c.id) ∧ w'.cell? ⟨gs, 1, none⟩ = some (.int .i64 c.side) ∧ w'.cell? ⟨gs, 2, none⟩ = some (.int .u64 c.amount) ∧ w'.cell? ⟨gs, 35, none⟩ = some (.int .u64 c.expiry)) ∧ CellsAt w' ⟨gs, 3, none⟩ (bs c.hash)) w'), wpAnyH Try.prog Region.Mode.any ops61 Q (fun w' => (w'.cell? ⟨gs, 0, none⟩ = some (.int .u64 c.id) ∧ w'.cell? ⟨gs, 1, none⟩ = some (.int .i64 c.side) ∧ w'.cell? ⟨gs, 2, none⟩ = some (.int .u64 c.amount) ∧ w'.cell? ⟨gs, 35, none⟩ = some (.int .u64 c.expiry)) ∧ CellsAt w' ⟨gs, 3, none⟩ (bs c.hash)) 5 #[true, true, true, true, true, true, true, true, true, false, true, true, true, false, true, true, true, false, true, true, true, false, false] ⟨#[.slice a0 l.length c0, .agg cs.toArray, undef, .pointer (some ⟨gs, 0, none⟩), .slice none 0 0, (.slice a0 l.length c0), (.pointer (some ⟨gs, 0, none⟩)), (.int .u64 c.id), .slice (some ⟨g1, 0, none⟩) 1 1, .slice a4 (l.length + 8) c4, (.pointer (some ⟨gs, 1, none⟩)), (.int .i64 c.side), (.int .u8 c.side), .slice (some ⟨g2, 0, none⟩) 1 1, undef, (.pointer (some ⟨gs, 2, none⟩)), (.int .u64 c.amount), .slice (some ⟨g3, 0, none⟩) 1 1, undef, (.pointer (some ⟨gs, 3, none⟩)), (.agg (bs c.hash).toArray), .slice (some ⟨g4, 0, none⟩) 1 1, undef, (.pointer (some ⟨gs, 35, none⟩)), (.int .u64 c.expiry), .slice (some ⟨g5, 0, none⟩) 1 1, undef], []⟩ w' := by
    intro w' g1 a4 c4 x4 g2 g3 g4 g5 hS hrow4 hHeld
    refine wpAnyH_ready (rs := [9]) (by kernel_rfl) (by simp) ?_
    refine hcons rfl rfl (fun K hK => ?_) ?_
    · clear hHeld
      have hcall := oone_ok x4 (.slice a4 (l.length + 8) c4) (l ++ enc 8 c.id) (.slice (some ⟨g2, 0, none⟩) 1 1) [UInt8.ofNat c.side.toNat] _ (hS.get 0 rfl) (by rw [L1.out]; exact hrow4) ((RowV.lit 5 1 g2 1 _ rfl (by decide)).read (hS.get 3 rfl)) (by rw [L1.out]; simp; omega)
      refine owp_call rfl (by kernel_rfl) (args := #[.slice a4 (l.length + 8) c4, .slice (some ⟨g2, 0, none⟩) 1 1]) rfl hcall ?_
      clear hcall
      rintro e w5 ⟨v9, x9, rfl, hrow9, hc⟩
      rw [L2.out] at hrow9
      replace hS := hS.call1 (N := []) 0 rfl hc
      try simp only [List.cons_append, List.nil_append, List.append_nil, List.set_cons_zero, List.set_cons_succ] at hS
      clear hc
      obtain ⟨a9, c9, rfl⟩ := hrow9.isSl
      refine ⟨_, rfl, ?_⟩
      refine hK.out _ _ ⟨⟨(hS.get 1 rfl).cell 0 H0.out, (hS.get 1 rfl).cell 1 H1.out, (hS.get 1 rfl).cell 2 H2.out, (hS.get 1 rfl).cell 35 H35.out⟩, (hS.get 1 rfl).range 3 32 Hh.out⟩ (fun hHeld => ?_)
      clear hK K
      simp only [Act.put, List.setIfInBounds_toArray, List.set_cons_succ, List.set_cons_zero]
      exact wpAnyH_listed (by kernel_rfl) (st_7 _ g1 a4 c4 x4 g2 a9 c9 x9 g3 g4 g5 hS hrow9 hHeld)
    exact AllReadyH.nil
  have st_16 : ∀ (w' : World) (g1 : Nat) (a4 : Option Addr) (c4 : Nat) (x4 : Ent) (g2 : Nat) (g3 : Nat) (g4 : Nat) (hS : St w (keys [x]) w' [x4, some (gs, cs, 86), some (g1, [.int .u64 c.id], 27), some (g2, bs [UInt8.ofNat c.side.toNat], 5), some (g3, [.int .u64 c.amount], 27), some (g4, bs c.hash, 50)]) (hrow4 : RowV 5 1 (.slice a4 (l.length + 8) c4) (l.length + 8) (bs (l ++ enc 8 c.id)) x4) (hHeld : (fun w' => (w'.cell? ⟨gs, 0, none⟩ = some (.int .u64 c.id) ∧ w'.cell? ⟨gs, 1, none⟩ = some (.int .i64 c.side) ∧ w'.cell? ⟨gs, 2, none⟩ = some (.int .u64 c.amount) ∧ w'.cell? ⟨gs, 35, none⟩ = some (.int .u64 c.expiry)) ∧ CellsAt w' ⟨gs, 3, none⟩ (bs c.hash)) w'), wpAnyH Try.prog Region.Mode.any ops61 Q (fun w' => (w'.cell? ⟨gs, 0, none⟩ = some (.int .u64 c.id) ∧ w'.cell? ⟨gs, 1, none⟩ = some (.int .i64 c.side) ∧ w'.cell? ⟨gs, 2, none⟩ = some (.int .u64 c.amount) ∧ w'.cell? ⟨gs, 35, none⟩ = some (.int .u64 c.expiry)) ∧ CellsAt w' ⟨gs, 3, none⟩ (bs c.hash)) 6 #[true, true, true, true, true, true, true, true, true, false, true, true, true, false, true, true, true, false, true, true, false, false, false] ⟨#[.slice a0 l.length c0, .agg cs.toArray, undef, .pointer (some ⟨gs, 0, none⟩), .slice none 0 0, (.slice a0 l.length c0), (.pointer (some ⟨gs, 0, none⟩)), (.int .u64 c.id), .slice (some ⟨g1, 0, none⟩) 1 1, .slice a4 (l.length + 8) c4, (.pointer (some ⟨gs, 1, none⟩)), (.int .i64 c.side), (.int .u8 c.side), .slice (some ⟨g2, 0, none⟩) 1 1, undef, (.pointer (some ⟨gs, 2, none⟩)), (.int .u64 c.amount), .slice (some ⟨g3, 0, none⟩) 1 1, undef, (.pointer (some ⟨gs, 3, none⟩)), (.agg (bs c.hash).toArray), .slice (some ⟨g4, 0, none⟩) 1 1, undef, (.pointer (some ⟨gs, 35, none⟩)), (.int .u64 c.expiry), undef, undef], []⟩ w' := by
    intro w' g1 a4 c4 x4 g2 g3 g4 hS hrow4 hHeld
    refine wpAnyH_ready (rs := [9, 20]) (by kernel_rfl) (by simp) ?_
    refine hcons rfl rfl (fun K hK => ?_) ?_
    · clear hHeld
      have hcall := oone_ok x4 (.slice a4 (l.length + 8) c4) (l ++ enc 8 c.id) (.slice (some ⟨g2, 0, none⟩) 1 1) [UInt8.ofNat c.side.toNat] _ (hS.get 0 rfl) (by rw [L1.out]; exact hrow4) ((RowV.lit 5 1 g2 1 _ rfl (by decide)).read (hS.get 3 rfl)) (by rw [L1.out]; simp; omega)
      refine owp_call rfl (by kernel_rfl) (args := #[.slice a4 (l.length + 8) c4, .slice (some ⟨g2, 0, none⟩) 1 1]) rfl hcall ?_
      clear hcall
      rintro e w5 ⟨v9, x9, rfl, hrow9, hc⟩
      rw [L2.out] at hrow9
      replace hS := hS.call1 (N := []) 0 rfl hc
      try simp only [List.cons_append, List.nil_append, List.append_nil, List.set_cons_zero, List.set_cons_succ] at hS
      clear hc
      obtain ⟨a9, c9, rfl⟩ := hrow9.isSl
      refine ⟨_, rfl, ?_⟩
      refine hK.out _ _ ⟨⟨(hS.get 1 rfl).cell 0 H0.out, (hS.get 1 rfl).cell 1 H1.out, (hS.get 1 rfl).cell 2 H2.out, (hS.get 1 rfl).cell 35 H35.out⟩, (hS.get 1 rfl).range 3 32 Hh.out⟩ (fun hHeld => ?_)
      clear hK K
      simp only [Act.put, List.setIfInBounds_toArray, List.set_cons_succ, List.set_cons_zero]
      exact wpAnyH_listed (by kernel_rfl) (st_8 _ g1 a4 c4 x4 g2 a9 c9 x9 g3 g4 hS hrow9 hHeld)
    refine hcons rfl rfl (fun K hK => ?_) ?_
    · clear hHeld
      refine owp_bslice1 (vs := [.int .u64 c.expiry]) hS rfl rfl (by rfl) (by decide) ?_
      clear hS; intro g5 _ hS; try simp only [List.cons_append, List.nil_append, List.append_nil, List.set_cons_zero, List.set_cons_succ] at hS
      refine hK.out _ _ ⟨⟨(hS.get 1 rfl).cell 0 H0.out, (hS.get 1 rfl).cell 1 H1.out, (hS.get 1 rfl).cell 2 H2.out, (hS.get 1 rfl).cell 35 H35.out⟩, (hS.get 1 rfl).range 3 32 Hh.out⟩ (fun hHeld => ?_)
      clear hK K
      simp only [Act.put, List.setIfInBounds_toArray, List.set_cons_succ, List.set_cons_zero]
      exact wpAnyH_listed (by kernel_rfl) (st_15 _ g1 a4 c4 x4 g2 g3 g4 g5 hS hrow4 hHeld)
    exact AllReadyH.nil
  have st_17 : ∀ (w' : World) (g1 : Nat) (a4 : Option Addr) (c4 : Nat) (x4 : Ent) (g2 : Nat) (g3 : Nat) (g5 : Nat) (hS : St w (keys [x]) w' [x4, some (gs, cs, 86), some (g1, [.int .u64 c.id], 27), some (g2, bs [UInt8.ofNat c.side.toNat], 5), some (g3, [.int .u64 c.amount], 27), some (g5, [.int .u64 c.expiry], 27)]) (hrow4 : RowV 5 1 (.slice a4 (l.length + 8) c4) (l.length + 8) (bs (l ++ enc 8 c.id)) x4) (hHeld : (fun w' => (w'.cell? ⟨gs, 0, none⟩ = some (.int .u64 c.id) ∧ w'.cell? ⟨gs, 1, none⟩ = some (.int .i64 c.side) ∧ w'.cell? ⟨gs, 2, none⟩ = some (.int .u64 c.amount) ∧ w'.cell? ⟨gs, 35, none⟩ = some (.int .u64 c.expiry)) ∧ CellsAt w' ⟨gs, 3, none⟩ (bs c.hash)) w'), wpAnyH Try.prog Region.Mode.any ops61 Q (fun w' => (w'.cell? ⟨gs, 0, none⟩ = some (.int .u64 c.id) ∧ w'.cell? ⟨gs, 1, none⟩ = some (.int .i64 c.side) ∧ w'.cell? ⟨gs, 2, none⟩ = some (.int .u64 c.amount) ∧ w'.cell? ⟨gs, 35, none⟩ = some (.int .u64 c.expiry)) ∧ CellsAt w' ⟨gs, 3, none⟩ (bs c.hash)) 6 #[true, true, true, true, true, true, true, true, true, false, true, true, true, false, true, true, false, false, true, true, true, false, false] ⟨#[.slice a0 l.length c0, .agg cs.toArray, undef, .pointer (some ⟨gs, 0, none⟩), .slice none 0 0, (.slice a0 l.length c0), (.pointer (some ⟨gs, 0, none⟩)), (.int .u64 c.id), .slice (some ⟨g1, 0, none⟩) 1 1, .slice a4 (l.length + 8) c4, (.pointer (some ⟨gs, 1, none⟩)), (.int .i64 c.side), (.int .u8 c.side), .slice (some ⟨g2, 0, none⟩) 1 1, undef, (.pointer (some ⟨gs, 2, none⟩)), (.int .u64 c.amount), .slice (some ⟨g3, 0, none⟩) 1 1, undef, (.pointer (some ⟨gs, 3, none⟩)), (.agg (bs c.hash).toArray), undef, undef, (.pointer (some ⟨gs, 35, none⟩)), (.int .u64 c.expiry), .slice (some ⟨g5, 0, none⟩) 1 1, undef], []⟩ w' := by
    intro w' g1 a4 c4 x4 g2 g3 g5 hS hrow4 hHeld
    refine wpAnyH_ready (rs := [9, 16]) (by kernel_rfl) (by simp) ?_
    refine hcons rfl rfl (fun K hK => ?_) ?_
    · clear hHeld
      have hcall := oone_ok x4 (.slice a4 (l.length + 8) c4) (l ++ enc 8 c.id) (.slice (some ⟨g2, 0, none⟩) 1 1) [UInt8.ofNat c.side.toNat] _ (hS.get 0 rfl) (by rw [L1.out]; exact hrow4) ((RowV.lit 5 1 g2 1 _ rfl (by decide)).read (hS.get 3 rfl)) (by rw [L1.out]; simp; omega)
      refine owp_call rfl (by kernel_rfl) (args := #[.slice a4 (l.length + 8) c4, .slice (some ⟨g2, 0, none⟩) 1 1]) rfl hcall ?_
      clear hcall
      rintro e w5 ⟨v9, x9, rfl, hrow9, hc⟩
      rw [L2.out] at hrow9
      replace hS := hS.call1 (N := []) 0 rfl hc
      try simp only [List.cons_append, List.nil_append, List.append_nil, List.set_cons_zero, List.set_cons_succ] at hS
      clear hc
      obtain ⟨a9, c9, rfl⟩ := hrow9.isSl
      refine ⟨_, rfl, ?_⟩
      refine hK.out _ _ ⟨⟨(hS.get 1 rfl).cell 0 H0.out, (hS.get 1 rfl).cell 1 H1.out, (hS.get 1 rfl).cell 2 H2.out, (hS.get 1 rfl).cell 35 H35.out⟩, (hS.get 1 rfl).range 3 32 Hh.out⟩ (fun hHeld => ?_)
      clear hK K
      simp only [Act.put, List.setIfInBounds_toArray, List.set_cons_succ, List.set_cons_zero]
      exact wpAnyH_listed (by kernel_rfl) (st_9 _ g1 a4 c4 x4 g2 a9 c9 x9 g3 g5 hS hrow9 hHeld)
    refine hcons rfl rfl (fun K hK => ?_) ?_
    · clear hHeld
      refine owp_bslice1 (vs := bs c.hash) hS rfl rfl Hhash.out (by decide) ?_
      clear hS; intro g4 _ hS; try simp only [List.cons_append, List.nil_append, List.append_nil, List.set_cons_zero, List.set_cons_succ] at hS
      refine hK.out _ _ ⟨⟨(hS.get 1 rfl).cell 0 H0.out, (hS.get 1 rfl).cell 1 H1.out, (hS.get 1 rfl).cell 2 H2.out, (hS.get 1 rfl).cell 35 H35.out⟩, (hS.get 1 rfl).range 3 32 Hh.out⟩ (fun hHeld => ?_)
      clear hK K
      simp only [Act.put, List.setIfInBounds_toArray, List.set_cons_succ, List.set_cons_zero]
      replace hS := hS.pick [0, 1, 2, 3, 4, 6, 5] rfl (by decide)
      exact wpAnyH_listed (by kernel_rfl) (st_15 _ g1 a4 c4 x4 g2 g3 g4 g5 hS hrow4 hHeld)
    exact AllReadyH.nil
  have st_18 : ∀ (w' : World) (g1 : Nat) (a4 : Option Addr) (c4 : Nat) (x4 : Ent) (g2 : Nat) (g3 : Nat) (hS : St w (keys [x]) w' [x4, some (gs, cs, 86), some (g1, [.int .u64 c.id], 27), some (g2, bs [UInt8.ofNat c.side.toNat], 5), some (g3, [.int .u64 c.amount], 27)]) (hrow4 : RowV 5 1 (.slice a4 (l.length + 8) c4) (l.length + 8) (bs (l ++ enc 8 c.id)) x4) (hHeld : (fun w' => (w'.cell? ⟨gs, 0, none⟩ = some (.int .u64 c.id) ∧ w'.cell? ⟨gs, 1, none⟩ = some (.int .i64 c.side) ∧ w'.cell? ⟨gs, 2, none⟩ = some (.int .u64 c.amount) ∧ w'.cell? ⟨gs, 35, none⟩ = some (.int .u64 c.expiry)) ∧ CellsAt w' ⟨gs, 3, none⟩ (bs c.hash)) w'), wpAnyH Try.prog Region.Mode.any ops61 Q (fun w' => (w'.cell? ⟨gs, 0, none⟩ = some (.int .u64 c.id) ∧ w'.cell? ⟨gs, 1, none⟩ = some (.int .i64 c.side) ∧ w'.cell? ⟨gs, 2, none⟩ = some (.int .u64 c.amount) ∧ w'.cell? ⟨gs, 35, none⟩ = some (.int .u64 c.expiry)) ∧ CellsAt w' ⟨gs, 3, none⟩ (bs c.hash)) 7 #[true, true, true, true, true, true, true, true, true, false, true, true, true, false, true, true, false, false, true, true, false, false, false] ⟨#[.slice a0 l.length c0, .agg cs.toArray, undef, .pointer (some ⟨gs, 0, none⟩), .slice none 0 0, (.slice a0 l.length c0), (.pointer (some ⟨gs, 0, none⟩)), (.int .u64 c.id), .slice (some ⟨g1, 0, none⟩) 1 1, .slice a4 (l.length + 8) c4, (.pointer (some ⟨gs, 1, none⟩)), (.int .i64 c.side), (.int .u8 c.side), .slice (some ⟨g2, 0, none⟩) 1 1, undef, (.pointer (some ⟨gs, 2, none⟩)), (.int .u64 c.amount), .slice (some ⟨g3, 0, none⟩) 1 1, undef, (.pointer (some ⟨gs, 3, none⟩)), (.agg (bs c.hash).toArray), undef, undef, (.pointer (some ⟨gs, 35, none⟩)), (.int .u64 c.expiry), undef, undef], []⟩ w' := by
    intro w' g1 a4 c4 x4 g2 g3 hS hrow4 hHeld
    refine wpAnyH_ready (rs := [9, 16, 20]) (by kernel_rfl) (by simp) ?_
    refine hcons rfl rfl (fun K hK => ?_) ?_
    · clear hHeld
      have hcall := oone_ok x4 (.slice a4 (l.length + 8) c4) (l ++ enc 8 c.id) (.slice (some ⟨g2, 0, none⟩) 1 1) [UInt8.ofNat c.side.toNat] _ (hS.get 0 rfl) (by rw [L1.out]; exact hrow4) ((RowV.lit 5 1 g2 1 _ rfl (by decide)).read (hS.get 3 rfl)) (by rw [L1.out]; simp; omega)
      refine owp_call rfl (by kernel_rfl) (args := #[.slice a4 (l.length + 8) c4, .slice (some ⟨g2, 0, none⟩) 1 1]) rfl hcall ?_
      clear hcall
      rintro e w5 ⟨v9, x9, rfl, hrow9, hc⟩
      rw [L2.out] at hrow9
      replace hS := hS.call1 (N := []) 0 rfl hc
      try simp only [List.cons_append, List.nil_append, List.append_nil, List.set_cons_zero, List.set_cons_succ] at hS
      clear hc
      obtain ⟨a9, c9, rfl⟩ := hrow9.isSl
      refine ⟨_, rfl, ?_⟩
      refine hK.out _ _ ⟨⟨(hS.get 1 rfl).cell 0 H0.out, (hS.get 1 rfl).cell 1 H1.out, (hS.get 1 rfl).cell 2 H2.out, (hS.get 1 rfl).cell 35 H35.out⟩, (hS.get 1 rfl).range 3 32 Hh.out⟩ (fun hHeld => ?_)
      clear hK K
      simp only [Act.put, List.setIfInBounds_toArray, List.set_cons_succ, List.set_cons_zero]
      exact wpAnyH_listed (by kernel_rfl) (st_10 _ g1 a4 c4 x4 g2 a9 c9 x9 g3 hS hrow9 hHeld)
    refine hcons rfl rfl (fun K hK => ?_) ?_
    · clear hHeld
      refine owp_bslice1 (vs := bs c.hash) hS rfl rfl Hhash.out (by decide) ?_
      clear hS; intro g4 _ hS; try simp only [List.cons_append, List.nil_append, List.append_nil, List.set_cons_zero, List.set_cons_succ] at hS
      refine hK.out _ _ ⟨⟨(hS.get 1 rfl).cell 0 H0.out, (hS.get 1 rfl).cell 1 H1.out, (hS.get 1 rfl).cell 2 H2.out, (hS.get 1 rfl).cell 35 H35.out⟩, (hS.get 1 rfl).range 3 32 Hh.out⟩ (fun hHeld => ?_)
      clear hK K
      simp only [Act.put, List.setIfInBounds_toArray, List.set_cons_succ, List.set_cons_zero]
      exact wpAnyH_listed (by kernel_rfl) (st_16 _ g1 a4 c4 x4 g2 g3 g4 hS hrow4 hHeld)
    refine hcons rfl rfl (fun K hK => ?_) ?_
    · clear hHeld
      refine owp_bslice1 (vs := [.int .u64 c.expiry]) hS rfl rfl (by rfl) (by decide) ?_
      clear hS; intro g5 _ hS; try simp only [List.cons_append, List.nil_append, List.append_nil, List.set_cons_zero, List.set_cons_succ] at hS
      refine hK.out _ _ ⟨⟨(hS.get 1 rfl).cell 0 H0.out, (hS.get 1 rfl).cell 1 H1.out, (hS.get 1 rfl).cell 2 H2.out, (hS.get 1 rfl).cell 35 H35.out⟩, (hS.get 1 rfl).range 3 32 Hh.out⟩ (fun hHeld => ?_)
      clear hK K
      simp only [Act.put, List.setIfInBounds_toArray, List.set_cons_succ, List.set_cons_zero]
      exact wpAnyH_listed (by kernel_rfl) (st_17 _ g1 a4 c4 x4 g2 g3 g5 hS hrow4 hHeld)
    exact AllReadyH.nil
  have st_19 : ∀ (w' : World) (g1 : Nat) (a4 : Option Addr) (c4 : Nat) (x4 : Ent) (g2 : Nat) (g4 : Nat) (g5 : Nat) (hS : St w (keys [x]) w' [x4, some (gs, cs, 86), some (g1, [.int .u64 c.id], 27), some (g2, bs [UInt8.ofNat c.side.toNat], 5), some (g4, bs c.hash, 50), some (g5, [.int .u64 c.expiry], 27)]) (hrow4 : RowV 5 1 (.slice a4 (l.length + 8) c4) (l.length + 8) (bs (l ++ enc 8 c.id)) x4) (hHeld : (fun w' => (w'.cell? ⟨gs, 0, none⟩ = some (.int .u64 c.id) ∧ w'.cell? ⟨gs, 1, none⟩ = some (.int .i64 c.side) ∧ w'.cell? ⟨gs, 2, none⟩ = some (.int .u64 c.amount) ∧ w'.cell? ⟨gs, 35, none⟩ = some (.int .u64 c.expiry)) ∧ CellsAt w' ⟨gs, 3, none⟩ (bs c.hash)) w'), wpAnyH Try.prog Region.Mode.any ops61 Q (fun w' => (w'.cell? ⟨gs, 0, none⟩ = some (.int .u64 c.id) ∧ w'.cell? ⟨gs, 1, none⟩ = some (.int .i64 c.side) ∧ w'.cell? ⟨gs, 2, none⟩ = some (.int .u64 c.amount) ∧ w'.cell? ⟨gs, 35, none⟩ = some (.int .u64 c.expiry)) ∧ CellsAt w' ⟨gs, 3, none⟩ (bs c.hash)) 6 #[true, true, true, true, true, true, true, true, true, false, true, true, false, false, true, true, true, false, true, true, true, false, false] ⟨#[.slice a0 l.length c0, .agg cs.toArray, undef, .pointer (some ⟨gs, 0, none⟩), .slice none 0 0, (.slice a0 l.length c0), (.pointer (some ⟨gs, 0, none⟩)), (.int .u64 c.id), .slice (some ⟨g1, 0, none⟩) 1 1, .slice a4 (l.length + 8) c4, (.pointer (some ⟨gs, 1, none⟩)), (.int .i64 c.side), (.int .u8 c.side), .slice (some ⟨g2, 0, none⟩) 1 1, undef, (.pointer (some ⟨gs, 2, none⟩)), (.int .u64 c.amount), undef, undef, (.pointer (some ⟨gs, 3, none⟩)), (.agg (bs c.hash).toArray), .slice (some ⟨g4, 0, none⟩) 1 1, undef, (.pointer (some ⟨gs, 35, none⟩)), (.int .u64 c.expiry), .slice (some ⟨g5, 0, none⟩) 1 1, undef], []⟩ w' := by
    intro w' g1 a4 c4 x4 g2 g4 g5 hS hrow4 hHeld
    refine wpAnyH_ready (rs := [9, 12]) (by kernel_rfl) (by simp) ?_
    refine hcons rfl rfl (fun K hK => ?_) ?_
    · clear hHeld
      have hcall := oone_ok x4 (.slice a4 (l.length + 8) c4) (l ++ enc 8 c.id) (.slice (some ⟨g2, 0, none⟩) 1 1) [UInt8.ofNat c.side.toNat] _ (hS.get 0 rfl) (by rw [L1.out]; exact hrow4) ((RowV.lit 5 1 g2 1 _ rfl (by decide)).read (hS.get 3 rfl)) (by rw [L1.out]; simp; omega)
      refine owp_call rfl (by kernel_rfl) (args := #[.slice a4 (l.length + 8) c4, .slice (some ⟨g2, 0, none⟩) 1 1]) rfl hcall ?_
      clear hcall
      rintro e w5 ⟨v9, x9, rfl, hrow9, hc⟩
      rw [L2.out] at hrow9
      replace hS := hS.call1 (N := []) 0 rfl hc
      try simp only [List.cons_append, List.nil_append, List.append_nil, List.set_cons_zero, List.set_cons_succ] at hS
      clear hc
      obtain ⟨a9, c9, rfl⟩ := hrow9.isSl
      refine ⟨_, rfl, ?_⟩
      refine hK.out _ _ ⟨⟨(hS.get 1 rfl).cell 0 H0.out, (hS.get 1 rfl).cell 1 H1.out, (hS.get 1 rfl).cell 2 H2.out, (hS.get 1 rfl).cell 35 H35.out⟩, (hS.get 1 rfl).range 3 32 Hh.out⟩ (fun hHeld => ?_)
      clear hK K
      simp only [Act.put, List.setIfInBounds_toArray, List.set_cons_succ, List.set_cons_zero]
      exact wpAnyH_listed (by kernel_rfl) (st_11 _ g1 a4 c4 x4 g2 a9 c9 x9 g4 g5 hS hrow9 hHeld)
    refine hcons rfl rfl (fun K hK => ?_) ?_
    · clear hHeld
      refine owp_bslice1 (vs := [.int .u64 c.amount]) hS rfl rfl (by rfl) (by decide) ?_
      clear hS; intro g3 _ hS; try simp only [List.cons_append, List.nil_append, List.append_nil, List.set_cons_zero, List.set_cons_succ] at hS
      refine hK.out _ _ ⟨⟨(hS.get 1 rfl).cell 0 H0.out, (hS.get 1 rfl).cell 1 H1.out, (hS.get 1 rfl).cell 2 H2.out, (hS.get 1 rfl).cell 35 H35.out⟩, (hS.get 1 rfl).range 3 32 Hh.out⟩ (fun hHeld => ?_)
      clear hK K
      simp only [Act.put, List.setIfInBounds_toArray, List.set_cons_succ, List.set_cons_zero]
      replace hS := hS.pick [0, 1, 2, 3, 6, 4, 5] rfl (by decide)
      exact wpAnyH_listed (by kernel_rfl) (st_15 _ g1 a4 c4 x4 g2 g3 g4 g5 hS hrow4 hHeld)
    exact AllReadyH.nil
  have st_20 : ∀ (w' : World) (g1 : Nat) (a4 : Option Addr) (c4 : Nat) (x4 : Ent) (g2 : Nat) (g4 : Nat) (hS : St w (keys [x]) w' [x4, some (gs, cs, 86), some (g1, [.int .u64 c.id], 27), some (g2, bs [UInt8.ofNat c.side.toNat], 5), some (g4, bs c.hash, 50)]) (hrow4 : RowV 5 1 (.slice a4 (l.length + 8) c4) (l.length + 8) (bs (l ++ enc 8 c.id)) x4) (hHeld : (fun w' => (w'.cell? ⟨gs, 0, none⟩ = some (.int .u64 c.id) ∧ w'.cell? ⟨gs, 1, none⟩ = some (.int .i64 c.side) ∧ w'.cell? ⟨gs, 2, none⟩ = some (.int .u64 c.amount) ∧ w'.cell? ⟨gs, 35, none⟩ = some (.int .u64 c.expiry)) ∧ CellsAt w' ⟨gs, 3, none⟩ (bs c.hash)) w'), wpAnyH Try.prog Region.Mode.any ops61 Q (fun w' => (w'.cell? ⟨gs, 0, none⟩ = some (.int .u64 c.id) ∧ w'.cell? ⟨gs, 1, none⟩ = some (.int .i64 c.side) ∧ w'.cell? ⟨gs, 2, none⟩ = some (.int .u64 c.amount) ∧ w'.cell? ⟨gs, 35, none⟩ = some (.int .u64 c.expiry)) ∧ CellsAt w' ⟨gs, 3, none⟩ (bs c.hash)) 7 #[true, true, true, true, true, true, true, true, true, false, true, true, false, false, true, true, true, false, true, true, false, false, false] ⟨#[.slice a0 l.length c0, .agg cs.toArray, undef, .pointer (some ⟨gs, 0, none⟩), .slice none 0 0, (.slice a0 l.length c0), (.pointer (some ⟨gs, 0, none⟩)), (.int .u64 c.id), .slice (some ⟨g1, 0, none⟩) 1 1, .slice a4 (l.length + 8) c4, (.pointer (some ⟨gs, 1, none⟩)), (.int .i64 c.side), (.int .u8 c.side), .slice (some ⟨g2, 0, none⟩) 1 1, undef, (.pointer (some ⟨gs, 2, none⟩)), (.int .u64 c.amount), undef, undef, (.pointer (some ⟨gs, 3, none⟩)), (.agg (bs c.hash).toArray), .slice (some ⟨g4, 0, none⟩) 1 1, undef, (.pointer (some ⟨gs, 35, none⟩)), (.int .u64 c.expiry), undef, undef], []⟩ w' := by
    intro w' g1 a4 c4 x4 g2 g4 hS hrow4 hHeld
    refine wpAnyH_ready (rs := [9, 12, 20]) (by kernel_rfl) (by simp) ?_
    refine hcons rfl rfl (fun K hK => ?_) ?_
    · clear hHeld
      have hcall := oone_ok x4 (.slice a4 (l.length + 8) c4) (l ++ enc 8 c.id) (.slice (some ⟨g2, 0, none⟩) 1 1) [UInt8.ofNat c.side.toNat] _ (hS.get 0 rfl) (by rw [L1.out]; exact hrow4) ((RowV.lit 5 1 g2 1 _ rfl (by decide)).read (hS.get 3 rfl)) (by rw [L1.out]; simp; omega)
      refine owp_call rfl (by kernel_rfl) (args := #[.slice a4 (l.length + 8) c4, .slice (some ⟨g2, 0, none⟩) 1 1]) rfl hcall ?_
      clear hcall
      rintro e w5 ⟨v9, x9, rfl, hrow9, hc⟩
      rw [L2.out] at hrow9
      replace hS := hS.call1 (N := []) 0 rfl hc
      try simp only [List.cons_append, List.nil_append, List.append_nil, List.set_cons_zero, List.set_cons_succ] at hS
      clear hc
      obtain ⟨a9, c9, rfl⟩ := hrow9.isSl
      refine ⟨_, rfl, ?_⟩
      refine hK.out _ _ ⟨⟨(hS.get 1 rfl).cell 0 H0.out, (hS.get 1 rfl).cell 1 H1.out, (hS.get 1 rfl).cell 2 H2.out, (hS.get 1 rfl).cell 35 H35.out⟩, (hS.get 1 rfl).range 3 32 Hh.out⟩ (fun hHeld => ?_)
      clear hK K
      simp only [Act.put, List.setIfInBounds_toArray, List.set_cons_succ, List.set_cons_zero]
      exact wpAnyH_listed (by kernel_rfl) (st_12 _ g1 a4 c4 x4 g2 a9 c9 x9 g4 hS hrow9 hHeld)
    refine hcons rfl rfl (fun K hK => ?_) ?_
    · clear hHeld
      refine owp_bslice1 (vs := [.int .u64 c.amount]) hS rfl rfl (by rfl) (by decide) ?_
      clear hS; intro g3 _ hS; try simp only [List.cons_append, List.nil_append, List.append_nil, List.set_cons_zero, List.set_cons_succ] at hS
      refine hK.out _ _ ⟨⟨(hS.get 1 rfl).cell 0 H0.out, (hS.get 1 rfl).cell 1 H1.out, (hS.get 1 rfl).cell 2 H2.out, (hS.get 1 rfl).cell 35 H35.out⟩, (hS.get 1 rfl).range 3 32 Hh.out⟩ (fun hHeld => ?_)
      clear hK K
      simp only [Act.put, List.setIfInBounds_toArray, List.set_cons_succ, List.set_cons_zero]
      replace hS := hS.pick [0, 1, 2, 3, 5, 4] rfl (by decide)
      exact wpAnyH_listed (by kernel_rfl) (st_16 _ g1 a4 c4 x4 g2 g3 g4 hS hrow4 hHeld)
    refine hcons rfl rfl (fun K hK => ?_) ?_
    · clear hHeld
      refine owp_bslice1 (vs := [.int .u64 c.expiry]) hS rfl rfl (by rfl) (by decide) ?_
      clear hS; intro g5 _ hS; try simp only [List.cons_append, List.nil_append, List.append_nil, List.set_cons_zero, List.set_cons_succ] at hS
      refine hK.out _ _ ⟨⟨(hS.get 1 rfl).cell 0 H0.out, (hS.get 1 rfl).cell 1 H1.out, (hS.get 1 rfl).cell 2 H2.out, (hS.get 1 rfl).cell 35 H35.out⟩, (hS.get 1 rfl).range 3 32 Hh.out⟩ (fun hHeld => ?_)
      clear hK K
      simp only [Act.put, List.setIfInBounds_toArray, List.set_cons_succ, List.set_cons_zero]
      exact wpAnyH_listed (by kernel_rfl) (st_19 _ g1 a4 c4 x4 g2 g4 g5 hS hrow4 hHeld)
    exact AllReadyH.nil
  have st_21 : ∀ (w' : World) (g1 : Nat) (a4 : Option Addr) (c4 : Nat) (x4 : Ent) (g2 : Nat) (g5 : Nat) (hS : St w (keys [x]) w' [x4, some (gs, cs, 86), some (g1, [.int .u64 c.id], 27), some (g2, bs [UInt8.ofNat c.side.toNat], 5), some (g5, [.int .u64 c.expiry], 27)]) (hrow4 : RowV 5 1 (.slice a4 (l.length + 8) c4) (l.length + 8) (bs (l ++ enc 8 c.id)) x4) (hHeld : (fun w' => (w'.cell? ⟨gs, 0, none⟩ = some (.int .u64 c.id) ∧ w'.cell? ⟨gs, 1, none⟩ = some (.int .i64 c.side) ∧ w'.cell? ⟨gs, 2, none⟩ = some (.int .u64 c.amount) ∧ w'.cell? ⟨gs, 35, none⟩ = some (.int .u64 c.expiry)) ∧ CellsAt w' ⟨gs, 3, none⟩ (bs c.hash)) w'), wpAnyH Try.prog Region.Mode.any ops61 Q (fun w' => (w'.cell? ⟨gs, 0, none⟩ = some (.int .u64 c.id) ∧ w'.cell? ⟨gs, 1, none⟩ = some (.int .i64 c.side) ∧ w'.cell? ⟨gs, 2, none⟩ = some (.int .u64 c.amount) ∧ w'.cell? ⟨gs, 35, none⟩ = some (.int .u64 c.expiry)) ∧ CellsAt w' ⟨gs, 3, none⟩ (bs c.hash)) 7 #[true, true, true, true, true, true, true, true, true, false, true, true, false, false, true, true, false, false, true, true, true, false, false] ⟨#[.slice a0 l.length c0, .agg cs.toArray, undef, .pointer (some ⟨gs, 0, none⟩), .slice none 0 0, (.slice a0 l.length c0), (.pointer (some ⟨gs, 0, none⟩)), (.int .u64 c.id), .slice (some ⟨g1, 0, none⟩) 1 1, .slice a4 (l.length + 8) c4, (.pointer (some ⟨gs, 1, none⟩)), (.int .i64 c.side), (.int .u8 c.side), .slice (some ⟨g2, 0, none⟩) 1 1, undef, (.pointer (some ⟨gs, 2, none⟩)), (.int .u64 c.amount), undef, undef, (.pointer (some ⟨gs, 3, none⟩)), (.agg (bs c.hash).toArray), undef, undef, (.pointer (some ⟨gs, 35, none⟩)), (.int .u64 c.expiry), .slice (some ⟨g5, 0, none⟩) 1 1, undef], []⟩ w' := by
    intro w' g1 a4 c4 x4 g2 g5 hS hrow4 hHeld
    refine wpAnyH_ready (rs := [9, 12, 16]) (by kernel_rfl) (by simp) ?_
    refine hcons rfl rfl (fun K hK => ?_) ?_
    · clear hHeld
      have hcall := oone_ok x4 (.slice a4 (l.length + 8) c4) (l ++ enc 8 c.id) (.slice (some ⟨g2, 0, none⟩) 1 1) [UInt8.ofNat c.side.toNat] _ (hS.get 0 rfl) (by rw [L1.out]; exact hrow4) ((RowV.lit 5 1 g2 1 _ rfl (by decide)).read (hS.get 3 rfl)) (by rw [L1.out]; simp; omega)
      refine owp_call rfl (by kernel_rfl) (args := #[.slice a4 (l.length + 8) c4, .slice (some ⟨g2, 0, none⟩) 1 1]) rfl hcall ?_
      clear hcall
      rintro e w5 ⟨v9, x9, rfl, hrow9, hc⟩
      rw [L2.out] at hrow9
      replace hS := hS.call1 (N := []) 0 rfl hc
      try simp only [List.cons_append, List.nil_append, List.append_nil, List.set_cons_zero, List.set_cons_succ] at hS
      clear hc
      obtain ⟨a9, c9, rfl⟩ := hrow9.isSl
      refine ⟨_, rfl, ?_⟩
      refine hK.out _ _ ⟨⟨(hS.get 1 rfl).cell 0 H0.out, (hS.get 1 rfl).cell 1 H1.out, (hS.get 1 rfl).cell 2 H2.out, (hS.get 1 rfl).cell 35 H35.out⟩, (hS.get 1 rfl).range 3 32 Hh.out⟩ (fun hHeld => ?_)
      clear hK K
      simp only [Act.put, List.setIfInBounds_toArray, List.set_cons_succ, List.set_cons_zero]
      exact wpAnyH_listed (by kernel_rfl) (st_13 _ g1 a4 c4 x4 g2 a9 c9 x9 g5 hS hrow9 hHeld)
    refine hcons rfl rfl (fun K hK => ?_) ?_
    · clear hHeld
      refine owp_bslice1 (vs := [.int .u64 c.amount]) hS rfl rfl (by rfl) (by decide) ?_
      clear hS; intro g3 _ hS; try simp only [List.cons_append, List.nil_append, List.append_nil, List.set_cons_zero, List.set_cons_succ] at hS
      refine hK.out _ _ ⟨⟨(hS.get 1 rfl).cell 0 H0.out, (hS.get 1 rfl).cell 1 H1.out, (hS.get 1 rfl).cell 2 H2.out, (hS.get 1 rfl).cell 35 H35.out⟩, (hS.get 1 rfl).range 3 32 Hh.out⟩ (fun hHeld => ?_)
      clear hK K
      simp only [Act.put, List.setIfInBounds_toArray, List.set_cons_succ, List.set_cons_zero]
      replace hS := hS.pick [0, 1, 2, 3, 5, 4] rfl (by decide)
      exact wpAnyH_listed (by kernel_rfl) (st_17 _ g1 a4 c4 x4 g2 g3 g5 hS hrow4 hHeld)
    refine hcons rfl rfl (fun K hK => ?_) ?_
    · clear hHeld
      refine owp_bslice1 (vs := bs c.hash) hS rfl rfl Hhash.out (by decide) ?_
      clear hS; intro g4 _ hS; try simp only [List.cons_append, List.nil_append, List.append_nil, List.set_cons_zero, List.set_cons_succ] at hS
      refine hK.out _ _ ⟨⟨(hS.get 1 rfl).cell 0 H0.out, (hS.get 1 rfl).cell 1 H1.out, (hS.get 1 rfl).cell 2 H2.out, (hS.get 1 rfl).cell 35 H35.out⟩, (hS.get 1 rfl).range 3 32 Hh.out⟩ (fun hHeld => ?_)
      clear hK K
      simp only [Act.put, List.setIfInBounds_toArray, List.set_cons_succ, List.set_cons_zero]
      replace hS := hS.pick [0, 1, 2, 3, 5, 4] rfl (by decide)
      exact wpAnyH_listed (by kernel_rfl) (st_19 _ g1 a4 c4 x4 g2 g4 g5 hS hrow4 hHeld)
    exact AllReadyH.nil
  have st_22 : ∀ (w' : World) (g1 : Nat) (a4 : Option Addr) (c4 : Nat) (x4 : Ent) (g2 : Nat) (hS : St w (keys [x]) w' [x4, some (gs, cs, 86), some (g1, [.int .u64 c.id], 27), some (g2, bs [UInt8.ofNat c.side.toNat], 5)]) (hrow4 : RowV 5 1 (.slice a4 (l.length + 8) c4) (l.length + 8) (bs (l ++ enc 8 c.id)) x4) (hHeld : (fun w' => (w'.cell? ⟨gs, 0, none⟩ = some (.int .u64 c.id) ∧ w'.cell? ⟨gs, 1, none⟩ = some (.int .i64 c.side) ∧ w'.cell? ⟨gs, 2, none⟩ = some (.int .u64 c.amount) ∧ w'.cell? ⟨gs, 35, none⟩ = some (.int .u64 c.expiry)) ∧ CellsAt w' ⟨gs, 3, none⟩ (bs c.hash)) w'), wpAnyH Try.prog Region.Mode.any ops61 Q (fun w' => (w'.cell? ⟨gs, 0, none⟩ = some (.int .u64 c.id) ∧ w'.cell? ⟨gs, 1, none⟩ = some (.int .i64 c.side) ∧ w'.cell? ⟨gs, 2, none⟩ = some (.int .u64 c.amount) ∧ w'.cell? ⟨gs, 35, none⟩ = some (.int .u64 c.expiry)) ∧ CellsAt w' ⟨gs, 3, none⟩ (bs c.hash)) 8 #[true, true, true, true, true, true, true, true, true, false, true, true, false, false, true, true, false, false, true, true, false, false, false] ⟨#[.slice a0 l.length c0, .agg cs.toArray, undef, .pointer (some ⟨gs, 0, none⟩), .slice none 0 0, (.slice a0 l.length c0), (.pointer (some ⟨gs, 0, none⟩)), (.int .u64 c.id), .slice (some ⟨g1, 0, none⟩) 1 1, .slice a4 (l.length + 8) c4, (.pointer (some ⟨gs, 1, none⟩)), (.int .i64 c.side), (.int .u8 c.side), .slice (some ⟨g2, 0, none⟩) 1 1, undef, (.pointer (some ⟨gs, 2, none⟩)), (.int .u64 c.amount), undef, undef, (.pointer (some ⟨gs, 3, none⟩)), (.agg (bs c.hash).toArray), undef, undef, (.pointer (some ⟨gs, 35, none⟩)), (.int .u64 c.expiry), undef, undef], []⟩ w' := by
    intro w' g1 a4 c4 x4 g2 hS hrow4 hHeld
    refine wpAnyH_ready (rs := [9, 12, 16, 20]) (by kernel_rfl) (by simp) ?_
    refine hcons rfl rfl (fun K hK => ?_) ?_
    · clear hHeld
      have hcall := oone_ok x4 (.slice a4 (l.length + 8) c4) (l ++ enc 8 c.id) (.slice (some ⟨g2, 0, none⟩) 1 1) [UInt8.ofNat c.side.toNat] _ (hS.get 0 rfl) (by rw [L1.out]; exact hrow4) ((RowV.lit 5 1 g2 1 _ rfl (by decide)).read (hS.get 3 rfl)) (by rw [L1.out]; simp; omega)
      refine owp_call rfl (by kernel_rfl) (args := #[.slice a4 (l.length + 8) c4, .slice (some ⟨g2, 0, none⟩) 1 1]) rfl hcall ?_
      clear hcall
      rintro e w5 ⟨v9, x9, rfl, hrow9, hc⟩
      rw [L2.out] at hrow9
      replace hS := hS.call1 (N := []) 0 rfl hc
      try simp only [List.cons_append, List.nil_append, List.append_nil, List.set_cons_zero, List.set_cons_succ] at hS
      clear hc
      obtain ⟨a9, c9, rfl⟩ := hrow9.isSl
      refine ⟨_, rfl, ?_⟩
      refine hK.out _ _ ⟨⟨(hS.get 1 rfl).cell 0 H0.out, (hS.get 1 rfl).cell 1 H1.out, (hS.get 1 rfl).cell 2 H2.out, (hS.get 1 rfl).cell 35 H35.out⟩, (hS.get 1 rfl).range 3 32 Hh.out⟩ (fun hHeld => ?_)
      clear hK K
      simp only [Act.put, List.setIfInBounds_toArray, List.set_cons_succ, List.set_cons_zero]
      exact wpAnyH_listed (by kernel_rfl) (st_14 _ g1 a4 c4 x4 g2 a9 c9 x9 hS hrow9 hHeld)
    refine hcons rfl rfl (fun K hK => ?_) ?_
    · clear hHeld
      refine owp_bslice1 (vs := [.int .u64 c.amount]) hS rfl rfl (by rfl) (by decide) ?_
      clear hS; intro g3 _ hS; try simp only [List.cons_append, List.nil_append, List.append_nil, List.set_cons_zero, List.set_cons_succ] at hS
      refine hK.out _ _ ⟨⟨(hS.get 1 rfl).cell 0 H0.out, (hS.get 1 rfl).cell 1 H1.out, (hS.get 1 rfl).cell 2 H2.out, (hS.get 1 rfl).cell 35 H35.out⟩, (hS.get 1 rfl).range 3 32 Hh.out⟩ (fun hHeld => ?_)
      clear hK K
      simp only [Act.put, List.setIfInBounds_toArray, List.set_cons_succ, List.set_cons_zero]
      exact wpAnyH_listed (by kernel_rfl) (st_18 _ g1 a4 c4 x4 g2 g3 hS hrow4 hHeld)
    refine hcons rfl rfl (fun K hK => ?_) ?_
    · clear hHeld
      refine owp_bslice1 (vs := bs c.hash) hS rfl rfl Hhash.out (by decide) ?_
      clear hS; intro g4 _ hS; try simp only [List.cons_append, List.nil_append, List.append_nil, List.set_cons_zero, List.set_cons_succ] at hS
      refine hK.out _ _ ⟨⟨(hS.get 1 rfl).cell 0 H0.out, (hS.get 1 rfl).cell 1 H1.out, (hS.get 1 rfl).cell 2 H2.out, (hS.get 1 rfl).cell 35 H35.out⟩, (hS.get 1 rfl).range 3 32 Hh.out⟩ (fun hHeld => ?_)
      clear hK K
      simp only [Act.put, List.setIfInBounds_toArray, List.set_cons_succ, List.set_cons_zero]
      exact wpAnyH_listed (by kernel_rfl) (st_20 _ g1 a4 c4 x4 g2 g4 hS hrow4 hHeld)
    refine hcons rfl rfl (fun K hK => ?_) ?_
    · clear hHeld
      refine owp_bslice1 (vs := [.int .u64 c.expiry]) hS rfl rfl (by rfl) (by decide) ?_
      clear hS; intro g5 _ hS; try simp only [List.cons_append, List.nil_append, List.append_nil, List.set_cons_zero, List.set_cons_succ] at hS
      refine hK.out _ _ ⟨⟨(hS.get 1 rfl).cell 0 H0.out, (hS.get 1 rfl).cell 1 H1.out, (hS.get 1 rfl).cell 2 H2.out, (hS.get 1 rfl).cell 35 H35.out⟩, (hS.get 1 rfl).range 3 32 Hh.out⟩ (fun hHeld => ?_)
      clear hK K
      simp only [Act.put, List.setIfInBounds_toArray, List.set_cons_succ, List.set_cons_zero]
      exact wpAnyH_listed (by kernel_rfl) (st_21 _ g1 a4 c4 x4 g2 g5 hS hrow4 hHeld)
    exact AllReadyH.nil
  have st_23 : ∀ (w' : World) (g1 : Nat) (a4 : Option Addr) (c4 : Nat) (x4 : Ent) (g3 : Nat) (g4 : Nat) (g5 : Nat) (hS : St w (keys [x]) w' [x4, some (gs, cs, 86), some (g1, [.int .u64 c.id], 27), some (g3, [.int .u64 c.amount], 27), some (g4, bs c.hash, 50), some (g5, [.int .u64 c.expiry], 27)]) (hrow4 : RowV 5 1 (.slice a4 (l.length + 8) c4) (l.length + 8) (bs (l ++ enc 8 c.id)) x4) (hHeld : (fun w' => (w'.cell? ⟨gs, 0, none⟩ = some (.int .u64 c.id) ∧ w'.cell? ⟨gs, 1, none⟩ = some (.int .i64 c.side) ∧ w'.cell? ⟨gs, 2, none⟩ = some (.int .u64 c.amount) ∧ w'.cell? ⟨gs, 35, none⟩ = some (.int .u64 c.expiry)) ∧ CellsAt w' ⟨gs, 3, none⟩ (bs c.hash)) w'), wpAnyH Try.prog Region.Mode.any ops61 Q (fun w' => (w'.cell? ⟨gs, 0, none⟩ = some (.int .u64 c.id) ∧ w'.cell? ⟨gs, 1, none⟩ = some (.int .i64 c.side) ∧ w'.cell? ⟨gs, 2, none⟩ = some (.int .u64 c.amount) ∧ w'.cell? ⟨gs, 35, none⟩ = some (.int .u64 c.expiry)) ∧ CellsAt w' ⟨gs, 3, none⟩ (bs c.hash)) 6 #[true, true, true, true, true, true, true, true, false, false, true, true, true, false, true, true, true, false, true, true, true, false, false] ⟨#[.slice a0 l.length c0, .agg cs.toArray, undef, .pointer (some ⟨gs, 0, none⟩), .slice none 0 0, (.slice a0 l.length c0), (.pointer (some ⟨gs, 0, none⟩)), (.int .u64 c.id), .slice (some ⟨g1, 0, none⟩) 1 1, .slice a4 (l.length + 8) c4, (.pointer (some ⟨gs, 1, none⟩)), (.int .i64 c.side), (.int .u8 c.side), undef, undef, (.pointer (some ⟨gs, 2, none⟩)), (.int .u64 c.amount), .slice (some ⟨g3, 0, none⟩) 1 1, undef, (.pointer (some ⟨gs, 3, none⟩)), (.agg (bs c.hash).toArray), .slice (some ⟨g4, 0, none⟩) 1 1, undef, (.pointer (some ⟨gs, 35, none⟩)), (.int .u64 c.expiry), .slice (some ⟨g5, 0, none⟩) 1 1, undef], []⟩ w' := by
    intro w' g1 a4 c4 x4 g3 g4 g5 hS hrow4 hHeld
    refine wpAnyH_ready (rs := [8]) (by kernel_rfl) (by simp) ?_
    refine hcons rfl rfl (fun K hK => ?_) ?_
    · clear hHeld
      refine owp_bslice1 (vs := [.int .u8 c.side]) hS rfl rfl (by rfl) (by decide) ?_
      clear hS; intro g2 _ hS; try simp only [List.cons_append, List.nil_append, List.append_nil, List.set_cons_zero, List.set_cons_succ] at hS
      rw [← Hside.out] at hS
      refine hK.out _ _ ⟨⟨(hS.get 1 rfl).cell 0 H0.out, (hS.get 1 rfl).cell 1 H1.out, (hS.get 1 rfl).cell 2 H2.out, (hS.get 1 rfl).cell 35 H35.out⟩, (hS.get 1 rfl).range 3 32 Hh.out⟩ (fun hHeld => ?_)
      clear hK K
      simp only [Act.put, List.setIfInBounds_toArray, List.set_cons_succ, List.set_cons_zero]
      replace hS := hS.pick [0, 1, 2, 6, 3, 4, 5] rfl (by decide)
      exact wpAnyH_listed (by kernel_rfl) (st_15 _ g1 a4 c4 x4 g2 g3 g4 g5 hS hrow4 hHeld)
    exact AllReadyH.nil
  have st_24 : ∀ (w' : World) (g1 : Nat) (a4 : Option Addr) (c4 : Nat) (x4 : Ent) (g3 : Nat) (g4 : Nat) (hS : St w (keys [x]) w' [x4, some (gs, cs, 86), some (g1, [.int .u64 c.id], 27), some (g3, [.int .u64 c.amount], 27), some (g4, bs c.hash, 50)]) (hrow4 : RowV 5 1 (.slice a4 (l.length + 8) c4) (l.length + 8) (bs (l ++ enc 8 c.id)) x4) (hHeld : (fun w' => (w'.cell? ⟨gs, 0, none⟩ = some (.int .u64 c.id) ∧ w'.cell? ⟨gs, 1, none⟩ = some (.int .i64 c.side) ∧ w'.cell? ⟨gs, 2, none⟩ = some (.int .u64 c.amount) ∧ w'.cell? ⟨gs, 35, none⟩ = some (.int .u64 c.expiry)) ∧ CellsAt w' ⟨gs, 3, none⟩ (bs c.hash)) w'), wpAnyH Try.prog Region.Mode.any ops61 Q (fun w' => (w'.cell? ⟨gs, 0, none⟩ = some (.int .u64 c.id) ∧ w'.cell? ⟨gs, 1, none⟩ = some (.int .i64 c.side) ∧ w'.cell? ⟨gs, 2, none⟩ = some (.int .u64 c.amount) ∧ w'.cell? ⟨gs, 35, none⟩ = some (.int .u64 c.expiry)) ∧ CellsAt w' ⟨gs, 3, none⟩ (bs c.hash)) 7 #[true, true, true, true, true, true, true, true, false, false, true, true, true, false, true, true, true, false, true, true, false, false, false] ⟨#[.slice a0 l.length c0, .agg cs.toArray, undef, .pointer (some ⟨gs, 0, none⟩), .slice none 0 0, (.slice a0 l.length c0), (.pointer (some ⟨gs, 0, none⟩)), (.int .u64 c.id), .slice (some ⟨g1, 0, none⟩) 1 1, .slice a4 (l.length + 8) c4, (.pointer (some ⟨gs, 1, none⟩)), (.int .i64 c.side), (.int .u8 c.side), undef, undef, (.pointer (some ⟨gs, 2, none⟩)), (.int .u64 c.amount), .slice (some ⟨g3, 0, none⟩) 1 1, undef, (.pointer (some ⟨gs, 3, none⟩)), (.agg (bs c.hash).toArray), .slice (some ⟨g4, 0, none⟩) 1 1, undef, (.pointer (some ⟨gs, 35, none⟩)), (.int .u64 c.expiry), undef, undef], []⟩ w' := by
    intro w' g1 a4 c4 x4 g3 g4 hS hrow4 hHeld
    refine wpAnyH_ready (rs := [8, 20]) (by kernel_rfl) (by simp) ?_
    refine hcons rfl rfl (fun K hK => ?_) ?_
    · clear hHeld
      refine owp_bslice1 (vs := [.int .u8 c.side]) hS rfl rfl (by rfl) (by decide) ?_
      clear hS; intro g2 _ hS; try simp only [List.cons_append, List.nil_append, List.append_nil, List.set_cons_zero, List.set_cons_succ] at hS
      rw [← Hside.out] at hS
      refine hK.out _ _ ⟨⟨(hS.get 1 rfl).cell 0 H0.out, (hS.get 1 rfl).cell 1 H1.out, (hS.get 1 rfl).cell 2 H2.out, (hS.get 1 rfl).cell 35 H35.out⟩, (hS.get 1 rfl).range 3 32 Hh.out⟩ (fun hHeld => ?_)
      clear hK K
      simp only [Act.put, List.setIfInBounds_toArray, List.set_cons_succ, List.set_cons_zero]
      replace hS := hS.pick [0, 1, 2, 5, 3, 4] rfl (by decide)
      exact wpAnyH_listed (by kernel_rfl) (st_16 _ g1 a4 c4 x4 g2 g3 g4 hS hrow4 hHeld)
    refine hcons rfl rfl (fun K hK => ?_) ?_
    · clear hHeld
      refine owp_bslice1 (vs := [.int .u64 c.expiry]) hS rfl rfl (by rfl) (by decide) ?_
      clear hS; intro g5 _ hS; try simp only [List.cons_append, List.nil_append, List.append_nil, List.set_cons_zero, List.set_cons_succ] at hS
      refine hK.out _ _ ⟨⟨(hS.get 1 rfl).cell 0 H0.out, (hS.get 1 rfl).cell 1 H1.out, (hS.get 1 rfl).cell 2 H2.out, (hS.get 1 rfl).cell 35 H35.out⟩, (hS.get 1 rfl).range 3 32 Hh.out⟩ (fun hHeld => ?_)
      clear hK K
      simp only [Act.put, List.setIfInBounds_toArray, List.set_cons_succ, List.set_cons_zero]
      exact wpAnyH_listed (by kernel_rfl) (st_23 _ g1 a4 c4 x4 g3 g4 g5 hS hrow4 hHeld)
    exact AllReadyH.nil
  have st_25 : ∀ (w' : World) (g1 : Nat) (a4 : Option Addr) (c4 : Nat) (x4 : Ent) (g3 : Nat) (g5 : Nat) (hS : St w (keys [x]) w' [x4, some (gs, cs, 86), some (g1, [.int .u64 c.id], 27), some (g3, [.int .u64 c.amount], 27), some (g5, [.int .u64 c.expiry], 27)]) (hrow4 : RowV 5 1 (.slice a4 (l.length + 8) c4) (l.length + 8) (bs (l ++ enc 8 c.id)) x4) (hHeld : (fun w' => (w'.cell? ⟨gs, 0, none⟩ = some (.int .u64 c.id) ∧ w'.cell? ⟨gs, 1, none⟩ = some (.int .i64 c.side) ∧ w'.cell? ⟨gs, 2, none⟩ = some (.int .u64 c.amount) ∧ w'.cell? ⟨gs, 35, none⟩ = some (.int .u64 c.expiry)) ∧ CellsAt w' ⟨gs, 3, none⟩ (bs c.hash)) w'), wpAnyH Try.prog Region.Mode.any ops61 Q (fun w' => (w'.cell? ⟨gs, 0, none⟩ = some (.int .u64 c.id) ∧ w'.cell? ⟨gs, 1, none⟩ = some (.int .i64 c.side) ∧ w'.cell? ⟨gs, 2, none⟩ = some (.int .u64 c.amount) ∧ w'.cell? ⟨gs, 35, none⟩ = some (.int .u64 c.expiry)) ∧ CellsAt w' ⟨gs, 3, none⟩ (bs c.hash)) 7 #[true, true, true, true, true, true, true, true, false, false, true, true, true, false, true, true, false, false, true, true, true, false, false] ⟨#[.slice a0 l.length c0, .agg cs.toArray, undef, .pointer (some ⟨gs, 0, none⟩), .slice none 0 0, (.slice a0 l.length c0), (.pointer (some ⟨gs, 0, none⟩)), (.int .u64 c.id), .slice (some ⟨g1, 0, none⟩) 1 1, .slice a4 (l.length + 8) c4, (.pointer (some ⟨gs, 1, none⟩)), (.int .i64 c.side), (.int .u8 c.side), undef, undef, (.pointer (some ⟨gs, 2, none⟩)), (.int .u64 c.amount), .slice (some ⟨g3, 0, none⟩) 1 1, undef, (.pointer (some ⟨gs, 3, none⟩)), (.agg (bs c.hash).toArray), undef, undef, (.pointer (some ⟨gs, 35, none⟩)), (.int .u64 c.expiry), .slice (some ⟨g5, 0, none⟩) 1 1, undef], []⟩ w' := by
    intro w' g1 a4 c4 x4 g3 g5 hS hrow4 hHeld
    refine wpAnyH_ready (rs := [8, 16]) (by kernel_rfl) (by simp) ?_
    refine hcons rfl rfl (fun K hK => ?_) ?_
    · clear hHeld
      refine owp_bslice1 (vs := [.int .u8 c.side]) hS rfl rfl (by rfl) (by decide) ?_
      clear hS; intro g2 _ hS; try simp only [List.cons_append, List.nil_append, List.append_nil, List.set_cons_zero, List.set_cons_succ] at hS
      rw [← Hside.out] at hS
      refine hK.out _ _ ⟨⟨(hS.get 1 rfl).cell 0 H0.out, (hS.get 1 rfl).cell 1 H1.out, (hS.get 1 rfl).cell 2 H2.out, (hS.get 1 rfl).cell 35 H35.out⟩, (hS.get 1 rfl).range 3 32 Hh.out⟩ (fun hHeld => ?_)
      clear hK K
      simp only [Act.put, List.setIfInBounds_toArray, List.set_cons_succ, List.set_cons_zero]
      replace hS := hS.pick [0, 1, 2, 5, 3, 4] rfl (by decide)
      exact wpAnyH_listed (by kernel_rfl) (st_17 _ g1 a4 c4 x4 g2 g3 g5 hS hrow4 hHeld)
    refine hcons rfl rfl (fun K hK => ?_) ?_
    · clear hHeld
      refine owp_bslice1 (vs := bs c.hash) hS rfl rfl Hhash.out (by decide) ?_
      clear hS; intro g4 _ hS; try simp only [List.cons_append, List.nil_append, List.append_nil, List.set_cons_zero, List.set_cons_succ] at hS
      refine hK.out _ _ ⟨⟨(hS.get 1 rfl).cell 0 H0.out, (hS.get 1 rfl).cell 1 H1.out, (hS.get 1 rfl).cell 2 H2.out, (hS.get 1 rfl).cell 35 H35.out⟩, (hS.get 1 rfl).range 3 32 Hh.out⟩ (fun hHeld => ?_)
      clear hK K
      simp only [Act.put, List.setIfInBounds_toArray, List.set_cons_succ, List.set_cons_zero]
      replace hS := hS.pick [0, 1, 2, 3, 5, 4] rfl (by decide)
      exact wpAnyH_listed (by kernel_rfl) (st_23 _ g1 a4 c4 x4 g3 g4 g5 hS hrow4 hHeld)
    exact AllReadyH.nil
  have st_26 : ∀ (w' : World) (g1 : Nat) (a4 : Option Addr) (c4 : Nat) (x4 : Ent) (g3 : Nat) (hS : St w (keys [x]) w' [x4, some (gs, cs, 86), some (g1, [.int .u64 c.id], 27), some (g3, [.int .u64 c.amount], 27)]) (hrow4 : RowV 5 1 (.slice a4 (l.length + 8) c4) (l.length + 8) (bs (l ++ enc 8 c.id)) x4) (hHeld : (fun w' => (w'.cell? ⟨gs, 0, none⟩ = some (.int .u64 c.id) ∧ w'.cell? ⟨gs, 1, none⟩ = some (.int .i64 c.side) ∧ w'.cell? ⟨gs, 2, none⟩ = some (.int .u64 c.amount) ∧ w'.cell? ⟨gs, 35, none⟩ = some (.int .u64 c.expiry)) ∧ CellsAt w' ⟨gs, 3, none⟩ (bs c.hash)) w'), wpAnyH Try.prog Region.Mode.any ops61 Q (fun w' => (w'.cell? ⟨gs, 0, none⟩ = some (.int .u64 c.id) ∧ w'.cell? ⟨gs, 1, none⟩ = some (.int .i64 c.side) ∧ w'.cell? ⟨gs, 2, none⟩ = some (.int .u64 c.amount) ∧ w'.cell? ⟨gs, 35, none⟩ = some (.int .u64 c.expiry)) ∧ CellsAt w' ⟨gs, 3, none⟩ (bs c.hash)) 8 #[true, true, true, true, true, true, true, true, false, false, true, true, true, false, true, true, false, false, true, true, false, false, false] ⟨#[.slice a0 l.length c0, .agg cs.toArray, undef, .pointer (some ⟨gs, 0, none⟩), .slice none 0 0, (.slice a0 l.length c0), (.pointer (some ⟨gs, 0, none⟩)), (.int .u64 c.id), .slice (some ⟨g1, 0, none⟩) 1 1, .slice a4 (l.length + 8) c4, (.pointer (some ⟨gs, 1, none⟩)), (.int .i64 c.side), (.int .u8 c.side), undef, undef, (.pointer (some ⟨gs, 2, none⟩)), (.int .u64 c.amount), .slice (some ⟨g3, 0, none⟩) 1 1, undef, (.pointer (some ⟨gs, 3, none⟩)), (.agg (bs c.hash).toArray), undef, undef, (.pointer (some ⟨gs, 35, none⟩)), (.int .u64 c.expiry), undef, undef], []⟩ w' := by
    intro w' g1 a4 c4 x4 g3 hS hrow4 hHeld
    refine wpAnyH_ready (rs := [8, 16, 20]) (by kernel_rfl) (by simp) ?_
    refine hcons rfl rfl (fun K hK => ?_) ?_
    · clear hHeld
      refine owp_bslice1 (vs := [.int .u8 c.side]) hS rfl rfl (by rfl) (by decide) ?_
      clear hS; intro g2 _ hS; try simp only [List.cons_append, List.nil_append, List.append_nil, List.set_cons_zero, List.set_cons_succ] at hS
      rw [← Hside.out] at hS
      refine hK.out _ _ ⟨⟨(hS.get 1 rfl).cell 0 H0.out, (hS.get 1 rfl).cell 1 H1.out, (hS.get 1 rfl).cell 2 H2.out, (hS.get 1 rfl).cell 35 H35.out⟩, (hS.get 1 rfl).range 3 32 Hh.out⟩ (fun hHeld => ?_)
      clear hK K
      simp only [Act.put, List.setIfInBounds_toArray, List.set_cons_succ, List.set_cons_zero]
      replace hS := hS.pick [0, 1, 2, 4, 3] rfl (by decide)
      exact wpAnyH_listed (by kernel_rfl) (st_18 _ g1 a4 c4 x4 g2 g3 hS hrow4 hHeld)
    refine hcons rfl rfl (fun K hK => ?_) ?_
    · clear hHeld
      refine owp_bslice1 (vs := bs c.hash) hS rfl rfl Hhash.out (by decide) ?_
      clear hS; intro g4 _ hS; try simp only [List.cons_append, List.nil_append, List.append_nil, List.set_cons_zero, List.set_cons_succ] at hS
      refine hK.out _ _ ⟨⟨(hS.get 1 rfl).cell 0 H0.out, (hS.get 1 rfl).cell 1 H1.out, (hS.get 1 rfl).cell 2 H2.out, (hS.get 1 rfl).cell 35 H35.out⟩, (hS.get 1 rfl).range 3 32 Hh.out⟩ (fun hHeld => ?_)
      clear hK K
      simp only [Act.put, List.setIfInBounds_toArray, List.set_cons_succ, List.set_cons_zero]
      exact wpAnyH_listed (by kernel_rfl) (st_24 _ g1 a4 c4 x4 g3 g4 hS hrow4 hHeld)
    refine hcons rfl rfl (fun K hK => ?_) ?_
    · clear hHeld
      refine owp_bslice1 (vs := [.int .u64 c.expiry]) hS rfl rfl (by rfl) (by decide) ?_
      clear hS; intro g5 _ hS; try simp only [List.cons_append, List.nil_append, List.append_nil, List.set_cons_zero, List.set_cons_succ] at hS
      refine hK.out _ _ ⟨⟨(hS.get 1 rfl).cell 0 H0.out, (hS.get 1 rfl).cell 1 H1.out, (hS.get 1 rfl).cell 2 H2.out, (hS.get 1 rfl).cell 35 H35.out⟩, (hS.get 1 rfl).range 3 32 Hh.out⟩ (fun hHeld => ?_)
      clear hK K
      simp only [Act.put, List.setIfInBounds_toArray, List.set_cons_succ, List.set_cons_zero]
      exact wpAnyH_listed (by kernel_rfl) (st_25 _ g1 a4 c4 x4 g3 g5 hS hrow4 hHeld)
    exact AllReadyH.nil
  have st_27 : ∀ (w' : World) (g1 : Nat) (a4 : Option Addr) (c4 : Nat) (x4 : Ent) (g4 : Nat) (g5 : Nat) (hS : St w (keys [x]) w' [x4, some (gs, cs, 86), some (g1, [.int .u64 c.id], 27), some (g4, bs c.hash, 50), some (g5, [.int .u64 c.expiry], 27)]) (hrow4 : RowV 5 1 (.slice a4 (l.length + 8) c4) (l.length + 8) (bs (l ++ enc 8 c.id)) x4) (hHeld : (fun w' => (w'.cell? ⟨gs, 0, none⟩ = some (.int .u64 c.id) ∧ w'.cell? ⟨gs, 1, none⟩ = some (.int .i64 c.side) ∧ w'.cell? ⟨gs, 2, none⟩ = some (.int .u64 c.amount) ∧ w'.cell? ⟨gs, 35, none⟩ = some (.int .u64 c.expiry)) ∧ CellsAt w' ⟨gs, 3, none⟩ (bs c.hash)) w'), wpAnyH Try.prog Region.Mode.any ops61 Q (fun w' => (w'.cell? ⟨gs, 0, none⟩ = some (.int .u64 c.id) ∧ w'.cell? ⟨gs, 1, none⟩ = some (.int .i64 c.side) ∧ w'.cell? ⟨gs, 2, none⟩ = some (.int .u64 c.amount) ∧ w'.cell? ⟨gs, 35, none⟩ = some (.int .u64 c.expiry)) ∧ CellsAt w' ⟨gs, 3, none⟩ (bs c.hash)) 7 #[true, true, true, true, true, true, true, true, false, false, true, true, false, false, true, true, true, false, true, true, true, false, false] ⟨#[.slice a0 l.length c0, .agg cs.toArray, undef, .pointer (some ⟨gs, 0, none⟩), .slice none 0 0, (.slice a0 l.length c0), (.pointer (some ⟨gs, 0, none⟩)), (.int .u64 c.id), .slice (some ⟨g1, 0, none⟩) 1 1, .slice a4 (l.length + 8) c4, (.pointer (some ⟨gs, 1, none⟩)), (.int .i64 c.side), (.int .u8 c.side), undef, undef, (.pointer (some ⟨gs, 2, none⟩)), (.int .u64 c.amount), undef, undef, (.pointer (some ⟨gs, 3, none⟩)), (.agg (bs c.hash).toArray), .slice (some ⟨g4, 0, none⟩) 1 1, undef, (.pointer (some ⟨gs, 35, none⟩)), (.int .u64 c.expiry), .slice (some ⟨g5, 0, none⟩) 1 1, undef], []⟩ w' := by
    intro w' g1 a4 c4 x4 g4 g5 hS hrow4 hHeld
    refine wpAnyH_ready (rs := [8, 12]) (by kernel_rfl) (by simp) ?_
    refine hcons rfl rfl (fun K hK => ?_) ?_
    · clear hHeld
      refine owp_bslice1 (vs := [.int .u8 c.side]) hS rfl rfl (by rfl) (by decide) ?_
      clear hS; intro g2 _ hS; try simp only [List.cons_append, List.nil_append, List.append_nil, List.set_cons_zero, List.set_cons_succ] at hS
      rw [← Hside.out] at hS
      refine hK.out _ _ ⟨⟨(hS.get 1 rfl).cell 0 H0.out, (hS.get 1 rfl).cell 1 H1.out, (hS.get 1 rfl).cell 2 H2.out, (hS.get 1 rfl).cell 35 H35.out⟩, (hS.get 1 rfl).range 3 32 Hh.out⟩ (fun hHeld => ?_)
      clear hK K
      simp only [Act.put, List.setIfInBounds_toArray, List.set_cons_succ, List.set_cons_zero]
      replace hS := hS.pick [0, 1, 2, 5, 3, 4] rfl (by decide)
      exact wpAnyH_listed (by kernel_rfl) (st_19 _ g1 a4 c4 x4 g2 g4 g5 hS hrow4 hHeld)
    refine hcons rfl rfl (fun K hK => ?_) ?_
    · clear hHeld
      refine owp_bslice1 (vs := [.int .u64 c.amount]) hS rfl rfl (by rfl) (by decide) ?_
      clear hS; intro g3 _ hS; try simp only [List.cons_append, List.nil_append, List.append_nil, List.set_cons_zero, List.set_cons_succ] at hS
      refine hK.out _ _ ⟨⟨(hS.get 1 rfl).cell 0 H0.out, (hS.get 1 rfl).cell 1 H1.out, (hS.get 1 rfl).cell 2 H2.out, (hS.get 1 rfl).cell 35 H35.out⟩, (hS.get 1 rfl).range 3 32 Hh.out⟩ (fun hHeld => ?_)
      clear hK K
      simp only [Act.put, List.setIfInBounds_toArray, List.set_cons_succ, List.set_cons_zero]
      replace hS := hS.pick [0, 1, 2, 5, 3, 4] rfl (by decide)
      exact wpAnyH_listed (by kernel_rfl) (st_23 _ g1 a4 c4 x4 g3 g4 g5 hS hrow4 hHeld)
    exact AllReadyH.nil
  have st_28 : ∀ (w' : World) (g1 : Nat) (a4 : Option Addr) (c4 : Nat) (x4 : Ent) (g4 : Nat) (hS : St w (keys [x]) w' [x4, some (gs, cs, 86), some (g1, [.int .u64 c.id], 27), some (g4, bs c.hash, 50)]) (hrow4 : RowV 5 1 (.slice a4 (l.length + 8) c4) (l.length + 8) (bs (l ++ enc 8 c.id)) x4) (hHeld : (fun w' => (w'.cell? ⟨gs, 0, none⟩ = some (.int .u64 c.id) ∧ w'.cell? ⟨gs, 1, none⟩ = some (.int .i64 c.side) ∧ w'.cell? ⟨gs, 2, none⟩ = some (.int .u64 c.amount) ∧ w'.cell? ⟨gs, 35, none⟩ = some (.int .u64 c.expiry)) ∧ CellsAt w' ⟨gs, 3, none⟩ (bs c.hash)) w'), wpAnyH Try.prog Region.Mode.any ops61 Q (fun w' => (w'.cell? ⟨gs, 0, none⟩ = some (.int .u64 c.id) ∧ w'.cell? ⟨gs, 1, none⟩ = some (.int .i64 c.side) ∧ w'.cell? ⟨gs, 2, none⟩ = some (.int .u64 c.amount) ∧ w'.cell? ⟨gs, 35, none⟩ = some (.int .u64 c.expiry)) ∧ CellsAt w' ⟨gs, 3, none⟩ (bs c.hash)) 8 #[true, true, true, true, true, true, true, true, false, false, true, true, false, false, true, true, true, false, true, true, false, false, false] ⟨#[.slice a0 l.length c0, .agg cs.toArray, undef, .pointer (some ⟨gs, 0, none⟩), .slice none 0 0, (.slice a0 l.length c0), (.pointer (some ⟨gs, 0, none⟩)), (.int .u64 c.id), .slice (some ⟨g1, 0, none⟩) 1 1, .slice a4 (l.length + 8) c4, (.pointer (some ⟨gs, 1, none⟩)), (.int .i64 c.side), (.int .u8 c.side), undef, undef, (.pointer (some ⟨gs, 2, none⟩)), (.int .u64 c.amount), undef, undef, (.pointer (some ⟨gs, 3, none⟩)), (.agg (bs c.hash).toArray), .slice (some ⟨g4, 0, none⟩) 1 1, undef, (.pointer (some ⟨gs, 35, none⟩)), (.int .u64 c.expiry), undef, undef], []⟩ w' := by
    intro w' g1 a4 c4 x4 g4 hS hrow4 hHeld
    refine wpAnyH_ready (rs := [8, 12, 20]) (by kernel_rfl) (by simp) ?_
    refine hcons rfl rfl (fun K hK => ?_) ?_
    · clear hHeld
      refine owp_bslice1 (vs := [.int .u8 c.side]) hS rfl rfl (by rfl) (by decide) ?_
      clear hS; intro g2 _ hS; try simp only [List.cons_append, List.nil_append, List.append_nil, List.set_cons_zero, List.set_cons_succ] at hS
      rw [← Hside.out] at hS
      refine hK.out _ _ ⟨⟨(hS.get 1 rfl).cell 0 H0.out, (hS.get 1 rfl).cell 1 H1.out, (hS.get 1 rfl).cell 2 H2.out, (hS.get 1 rfl).cell 35 H35.out⟩, (hS.get 1 rfl).range 3 32 Hh.out⟩ (fun hHeld => ?_)
      clear hK K
      simp only [Act.put, List.setIfInBounds_toArray, List.set_cons_succ, List.set_cons_zero]
      replace hS := hS.pick [0, 1, 2, 4, 3] rfl (by decide)
      exact wpAnyH_listed (by kernel_rfl) (st_20 _ g1 a4 c4 x4 g2 g4 hS hrow4 hHeld)
    refine hcons rfl rfl (fun K hK => ?_) ?_
    · clear hHeld
      refine owp_bslice1 (vs := [.int .u64 c.amount]) hS rfl rfl (by rfl) (by decide) ?_
      clear hS; intro g3 _ hS; try simp only [List.cons_append, List.nil_append, List.append_nil, List.set_cons_zero, List.set_cons_succ] at hS
      refine hK.out _ _ ⟨⟨(hS.get 1 rfl).cell 0 H0.out, (hS.get 1 rfl).cell 1 H1.out, (hS.get 1 rfl).cell 2 H2.out, (hS.get 1 rfl).cell 35 H35.out⟩, (hS.get 1 rfl).range 3 32 Hh.out⟩ (fun hHeld => ?_)
      clear hK K
      simp only [Act.put, List.setIfInBounds_toArray, List.set_cons_succ, List.set_cons_zero]
      replace hS := hS.pick [0, 1, 2, 4, 3] rfl (by decide)
      exact wpAnyH_listed (by kernel_rfl) (st_24 _ g1 a4 c4 x4 g3 g4 hS hrow4 hHeld)
    refine hcons rfl rfl (fun K hK => ?_) ?_
    · clear hHeld
      refine owp_bslice1 (vs := [.int .u64 c.expiry]) hS rfl rfl (by rfl) (by decide) ?_
      clear hS; intro g5 _ hS; try simp only [List.cons_append, List.nil_append, List.append_nil, List.set_cons_zero, List.set_cons_succ] at hS
      refine hK.out _ _ ⟨⟨(hS.get 1 rfl).cell 0 H0.out, (hS.get 1 rfl).cell 1 H1.out, (hS.get 1 rfl).cell 2 H2.out, (hS.get 1 rfl).cell 35 H35.out⟩, (hS.get 1 rfl).range 3 32 Hh.out⟩ (fun hHeld => ?_)
      clear hK K
      simp only [Act.put, List.setIfInBounds_toArray, List.set_cons_succ, List.set_cons_zero]
      exact wpAnyH_listed (by kernel_rfl) (st_27 _ g1 a4 c4 x4 g4 g5 hS hrow4 hHeld)
    exact AllReadyH.nil
  have st_29 : ∀ (w' : World) (g1 : Nat) (a4 : Option Addr) (c4 : Nat) (x4 : Ent) (g5 : Nat) (hS : St w (keys [x]) w' [x4, some (gs, cs, 86), some (g1, [.int .u64 c.id], 27), some (g5, [.int .u64 c.expiry], 27)]) (hrow4 : RowV 5 1 (.slice a4 (l.length + 8) c4) (l.length + 8) (bs (l ++ enc 8 c.id)) x4) (hHeld : (fun w' => (w'.cell? ⟨gs, 0, none⟩ = some (.int .u64 c.id) ∧ w'.cell? ⟨gs, 1, none⟩ = some (.int .i64 c.side) ∧ w'.cell? ⟨gs, 2, none⟩ = some (.int .u64 c.amount) ∧ w'.cell? ⟨gs, 35, none⟩ = some (.int .u64 c.expiry)) ∧ CellsAt w' ⟨gs, 3, none⟩ (bs c.hash)) w'), wpAnyH Try.prog Region.Mode.any ops61 Q (fun w' => (w'.cell? ⟨gs, 0, none⟩ = some (.int .u64 c.id) ∧ w'.cell? ⟨gs, 1, none⟩ = some (.int .i64 c.side) ∧ w'.cell? ⟨gs, 2, none⟩ = some (.int .u64 c.amount) ∧ w'.cell? ⟨gs, 35, none⟩ = some (.int .u64 c.expiry)) ∧ CellsAt w' ⟨gs, 3, none⟩ (bs c.hash)) 8 #[true, true, true, true, true, true, true, true, false, false, true, true, false, false, true, true, false, false, true, true, true, false, false] ⟨#[.slice a0 l.length c0, .agg cs.toArray, undef, .pointer (some ⟨gs, 0, none⟩), .slice none 0 0, (.slice a0 l.length c0), (.pointer (some ⟨gs, 0, none⟩)), (.int .u64 c.id), .slice (some ⟨g1, 0, none⟩) 1 1, .slice a4 (l.length + 8) c4, (.pointer (some ⟨gs, 1, none⟩)), (.int .i64 c.side), (.int .u8 c.side), undef, undef, (.pointer (some ⟨gs, 2, none⟩)), (.int .u64 c.amount), undef, undef, (.pointer (some ⟨gs, 3, none⟩)), (.agg (bs c.hash).toArray), undef, undef, (.pointer (some ⟨gs, 35, none⟩)), (.int .u64 c.expiry), .slice (some ⟨g5, 0, none⟩) 1 1, undef], []⟩ w' := by
    intro w' g1 a4 c4 x4 g5 hS hrow4 hHeld
    refine wpAnyH_ready (rs := [8, 12, 16]) (by kernel_rfl) (by simp) ?_
    refine hcons rfl rfl (fun K hK => ?_) ?_
    · clear hHeld
      refine owp_bslice1 (vs := [.int .u8 c.side]) hS rfl rfl (by rfl) (by decide) ?_
      clear hS; intro g2 _ hS; try simp only [List.cons_append, List.nil_append, List.append_nil, List.set_cons_zero, List.set_cons_succ] at hS
      rw [← Hside.out] at hS
      refine hK.out _ _ ⟨⟨(hS.get 1 rfl).cell 0 H0.out, (hS.get 1 rfl).cell 1 H1.out, (hS.get 1 rfl).cell 2 H2.out, (hS.get 1 rfl).cell 35 H35.out⟩, (hS.get 1 rfl).range 3 32 Hh.out⟩ (fun hHeld => ?_)
      clear hK K
      simp only [Act.put, List.setIfInBounds_toArray, List.set_cons_succ, List.set_cons_zero]
      replace hS := hS.pick [0, 1, 2, 4, 3] rfl (by decide)
      exact wpAnyH_listed (by kernel_rfl) (st_21 _ g1 a4 c4 x4 g2 g5 hS hrow4 hHeld)
    refine hcons rfl rfl (fun K hK => ?_) ?_
    · clear hHeld
      refine owp_bslice1 (vs := [.int .u64 c.amount]) hS rfl rfl (by rfl) (by decide) ?_
      clear hS; intro g3 _ hS; try simp only [List.cons_append, List.nil_append, List.append_nil, List.set_cons_zero, List.set_cons_succ] at hS
      refine hK.out _ _ ⟨⟨(hS.get 1 rfl).cell 0 H0.out, (hS.get 1 rfl).cell 1 H1.out, (hS.get 1 rfl).cell 2 H2.out, (hS.get 1 rfl).cell 35 H35.out⟩, (hS.get 1 rfl).range 3 32 Hh.out⟩ (fun hHeld => ?_)
      clear hK K
      simp only [Act.put, List.setIfInBounds_toArray, List.set_cons_succ, List.set_cons_zero]
      replace hS := hS.pick [0, 1, 2, 4, 3] rfl (by decide)
      exact wpAnyH_listed (by kernel_rfl) (st_25 _ g1 a4 c4 x4 g3 g5 hS hrow4 hHeld)
    refine hcons rfl rfl (fun K hK => ?_) ?_
    · clear hHeld
      refine owp_bslice1 (vs := bs c.hash) hS rfl rfl Hhash.out (by decide) ?_
      clear hS; intro g4 _ hS; try simp only [List.cons_append, List.nil_append, List.append_nil, List.set_cons_zero, List.set_cons_succ] at hS
      refine hK.out _ _ ⟨⟨(hS.get 1 rfl).cell 0 H0.out, (hS.get 1 rfl).cell 1 H1.out, (hS.get 1 rfl).cell 2 H2.out, (hS.get 1 rfl).cell 35 H35.out⟩, (hS.get 1 rfl).range 3 32 Hh.out⟩ (fun hHeld => ?_)
      clear hK K
      simp only [Act.put, List.setIfInBounds_toArray, List.set_cons_succ, List.set_cons_zero]
      replace hS := hS.pick [0, 1, 2, 4, 3] rfl (by decide)
      exact wpAnyH_listed (by kernel_rfl) (st_27 _ g1 a4 c4 x4 g4 g5 hS hrow4 hHeld)
    exact AllReadyH.nil
  have st_30 : ∀ (w' : World) (g1 : Nat) (a4 : Option Addr) (c4 : Nat) (x4 : Ent) (hS : St w (keys [x]) w' [x4, some (gs, cs, 86), some (g1, [.int .u64 c.id], 27)]) (hrow4 : RowV 5 1 (.slice a4 (l.length + 8) c4) (l.length + 8) (bs (l ++ enc 8 c.id)) x4) (hHeld : (fun w' => (w'.cell? ⟨gs, 0, none⟩ = some (.int .u64 c.id) ∧ w'.cell? ⟨gs, 1, none⟩ = some (.int .i64 c.side) ∧ w'.cell? ⟨gs, 2, none⟩ = some (.int .u64 c.amount) ∧ w'.cell? ⟨gs, 35, none⟩ = some (.int .u64 c.expiry)) ∧ CellsAt w' ⟨gs, 3, none⟩ (bs c.hash)) w'), wpAnyH Try.prog Region.Mode.any ops61 Q (fun w' => (w'.cell? ⟨gs, 0, none⟩ = some (.int .u64 c.id) ∧ w'.cell? ⟨gs, 1, none⟩ = some (.int .i64 c.side) ∧ w'.cell? ⟨gs, 2, none⟩ = some (.int .u64 c.amount) ∧ w'.cell? ⟨gs, 35, none⟩ = some (.int .u64 c.expiry)) ∧ CellsAt w' ⟨gs, 3, none⟩ (bs c.hash)) 9 #[true, true, true, true, true, true, true, true, false, false, true, true, false, false, true, true, false, false, true, true, false, false, false] ⟨#[.slice a0 l.length c0, .agg cs.toArray, undef, .pointer (some ⟨gs, 0, none⟩), .slice none 0 0, (.slice a0 l.length c0), (.pointer (some ⟨gs, 0, none⟩)), (.int .u64 c.id), .slice (some ⟨g1, 0, none⟩) 1 1, .slice a4 (l.length + 8) c4, (.pointer (some ⟨gs, 1, none⟩)), (.int .i64 c.side), (.int .u8 c.side), undef, undef, (.pointer (some ⟨gs, 2, none⟩)), (.int .u64 c.amount), undef, undef, (.pointer (some ⟨gs, 3, none⟩)), (.agg (bs c.hash).toArray), undef, undef, (.pointer (some ⟨gs, 35, none⟩)), (.int .u64 c.expiry), undef, undef], []⟩ w' := by
    intro w' g1 a4 c4 x4 hS hrow4 hHeld
    refine wpAnyH_ready (rs := [8, 12, 16, 20]) (by kernel_rfl) (by simp) ?_
    refine hcons rfl rfl (fun K hK => ?_) ?_
    · clear hHeld
      refine owp_bslice1 (vs := [.int .u8 c.side]) hS rfl rfl (by rfl) (by decide) ?_
      clear hS; intro g2 _ hS; try simp only [List.cons_append, List.nil_append, List.append_nil, List.set_cons_zero, List.set_cons_succ] at hS
      rw [← Hside.out] at hS
      refine hK.out _ _ ⟨⟨(hS.get 1 rfl).cell 0 H0.out, (hS.get 1 rfl).cell 1 H1.out, (hS.get 1 rfl).cell 2 H2.out, (hS.get 1 rfl).cell 35 H35.out⟩, (hS.get 1 rfl).range 3 32 Hh.out⟩ (fun hHeld => ?_)
      clear hK K
      simp only [Act.put, List.setIfInBounds_toArray, List.set_cons_succ, List.set_cons_zero]
      exact wpAnyH_listed (by kernel_rfl) (st_22 _ g1 a4 c4 x4 g2 hS hrow4 hHeld)
    refine hcons rfl rfl (fun K hK => ?_) ?_
    · clear hHeld
      refine owp_bslice1 (vs := [.int .u64 c.amount]) hS rfl rfl (by rfl) (by decide) ?_
      clear hS; intro g3 _ hS; try simp only [List.cons_append, List.nil_append, List.append_nil, List.set_cons_zero, List.set_cons_succ] at hS
      refine hK.out _ _ ⟨⟨(hS.get 1 rfl).cell 0 H0.out, (hS.get 1 rfl).cell 1 H1.out, (hS.get 1 rfl).cell 2 H2.out, (hS.get 1 rfl).cell 35 H35.out⟩, (hS.get 1 rfl).range 3 32 Hh.out⟩ (fun hHeld => ?_)
      clear hK K
      simp only [Act.put, List.setIfInBounds_toArray, List.set_cons_succ, List.set_cons_zero]
      exact wpAnyH_listed (by kernel_rfl) (st_26 _ g1 a4 c4 x4 g3 hS hrow4 hHeld)
    refine hcons rfl rfl (fun K hK => ?_) ?_
    · clear hHeld
      refine owp_bslice1 (vs := bs c.hash) hS rfl rfl Hhash.out (by decide) ?_
      clear hS; intro g4 _ hS; try simp only [List.cons_append, List.nil_append, List.append_nil, List.set_cons_zero, List.set_cons_succ] at hS
      refine hK.out _ _ ⟨⟨(hS.get 1 rfl).cell 0 H0.out, (hS.get 1 rfl).cell 1 H1.out, (hS.get 1 rfl).cell 2 H2.out, (hS.get 1 rfl).cell 35 H35.out⟩, (hS.get 1 rfl).range 3 32 Hh.out⟩ (fun hHeld => ?_)
      clear hK K
      simp only [Act.put, List.setIfInBounds_toArray, List.set_cons_succ, List.set_cons_zero]
      exact wpAnyH_listed (by kernel_rfl) (st_28 _ g1 a4 c4 x4 g4 hS hrow4 hHeld)
    refine hcons rfl rfl (fun K hK => ?_) ?_
    · clear hHeld
      refine owp_bslice1 (vs := [.int .u64 c.expiry]) hS rfl rfl (by rfl) (by decide) ?_
      clear hS; intro g5 _ hS; try simp only [List.cons_append, List.nil_append, List.append_nil, List.set_cons_zero, List.set_cons_succ] at hS
      refine hK.out _ _ ⟨⟨(hS.get 1 rfl).cell 0 H0.out, (hS.get 1 rfl).cell 1 H1.out, (hS.get 1 rfl).cell 2 H2.out, (hS.get 1 rfl).cell 35 H35.out⟩, (hS.get 1 rfl).range 3 32 Hh.out⟩ (fun hHeld => ?_)
      clear hK K
      simp only [Act.put, List.setIfInBounds_toArray, List.set_cons_succ, List.set_cons_zero]
      exact wpAnyH_listed (by kernel_rfl) (st_29 _ g1 a4 c4 x4 g5 hS hrow4 hHeld)
    exact AllReadyH.nil
  have st_31 : ∀ (w' : World) (g1 : Nat) (g2 : Nat) (g3 : Nat) (g4 : Nat) (g5 : Nat) (hS : St w (keys [x]) w' [x, some (gs, cs, 86), some (g1, [.int .u64 c.id], 27), some (g2, bs [UInt8.ofNat c.side.toNat], 5), some (g3, [.int .u64 c.amount], 27), some (g4, bs c.hash, 50), some (g5, [.int .u64 c.expiry], 27)])  (hHeld : (fun w' => (w'.cell? ⟨gs, 0, none⟩ = some (.int .u64 c.id) ∧ w'.cell? ⟨gs, 1, none⟩ = some (.int .i64 c.side) ∧ w'.cell? ⟨gs, 2, none⟩ = some (.int .u64 c.amount) ∧ w'.cell? ⟨gs, 35, none⟩ = some (.int .u64 c.expiry)) ∧ CellsAt w' ⟨gs, 3, none⟩ (bs c.hash)) w'), wpAnyH Try.prog Region.Mode.any ops61 Q (fun w' => (w'.cell? ⟨gs, 0, none⟩ = some (.int .u64 c.id) ∧ w'.cell? ⟨gs, 1, none⟩ = some (.int .i64 c.side) ∧ w'.cell? ⟨gs, 2, none⟩ = some (.int .u64 c.amount) ∧ w'.cell? ⟨gs, 35, none⟩ = some (.int .u64 c.expiry)) ∧ CellsAt w' ⟨gs, 3, none⟩ (bs c.hash)) 6 #[true, true, true, true, false, true, true, true, true, false, true, true, true, false, true, true, true, false, true, true, true, false, false] ⟨#[.slice a0 l.length c0, .agg cs.toArray, undef, .pointer (some ⟨gs, 0, none⟩), .slice none 0 0, (.slice a0 l.length c0), (.pointer (some ⟨gs, 0, none⟩)), (.int .u64 c.id), .slice (some ⟨g1, 0, none⟩) 1 1, undef, (.pointer (some ⟨gs, 1, none⟩)), (.int .i64 c.side), (.int .u8 c.side), .slice (some ⟨g2, 0, none⟩) 1 1, undef, (.pointer (some ⟨gs, 2, none⟩)), (.int .u64 c.amount), .slice (some ⟨g3, 0, none⟩) 1 1, undef, (.pointer (some ⟨gs, 3, none⟩)), (.agg (bs c.hash).toArray), .slice (some ⟨g4, 0, none⟩) 1 1, undef, (.pointer (some ⟨gs, 35, none⟩)), (.int .u64 c.expiry), .slice (some ⟨g5, 0, none⟩) 1 1, undef], []⟩ w' := by
    intro w' g1 g2 g3 g4 g5 hS  hHeld
    refine wpAnyH_ready (rs := [4]) (by kernel_rfl) (by simp) ?_
    refine hcons rfl rfl (fun K hK => ?_) ?_
    · clear hHeld
      have hcall := oeight_ok x (.slice a0 l.length c0) l (.slice (some ⟨g1, 0, none⟩) 1 1) [c.id] _ (hS.get 0 rfl) Hv.out ((RowV.lit 27 1 g1 1 [.int .u64 c.id] rfl (by decide)).read (hS.get 2 rfl)) (hS.apart 0 2 rfl rfl (by decide)) Hn1.out (by omega) (by simp)
      refine owp_call rfl (by kernel_rfl) (args := #[.slice a0 l.length c0, .slice (some ⟨g1, 0, none⟩) 1 1]) rfl hcall ?_
      clear hcall
      rintro e w5 ⟨v4, x4, rfl, hrow4, hc⟩
      rw [eights_one, L1.out] at hrow4
      replace hS := hS.call1 (N := []) 0 rfl hc
      try simp only [List.cons_append, List.nil_append, List.append_nil, List.set_cons_zero, List.set_cons_succ] at hS
      clear hc
      obtain ⟨a4, c4, rfl⟩ := hrow4.isSl
      refine ⟨_, rfl, ?_⟩
      refine hK.out _ _ ⟨⟨(hS.get 1 rfl).cell 0 H0.out, (hS.get 1 rfl).cell 1 H1.out, (hS.get 1 rfl).cell 2 H2.out, (hS.get 1 rfl).cell 35 H35.out⟩, (hS.get 1 rfl).range 3 32 Hh.out⟩ (fun hHeld => ?_)
      clear hK K
      simp only [Act.put, List.setIfInBounds_toArray, List.set_cons_succ, List.set_cons_zero]
      exact wpAnyH_listed (by kernel_rfl) (st_15 _ g1 a4 c4 x4 g2 g3 g4 g5 hS hrow4 hHeld)
    exact AllReadyH.nil
  have st_32 : ∀ (w' : World) (g1 : Nat) (g2 : Nat) (g3 : Nat) (g4 : Nat) (hS : St w (keys [x]) w' [x, some (gs, cs, 86), some (g1, [.int .u64 c.id], 27), some (g2, bs [UInt8.ofNat c.side.toNat], 5), some (g3, [.int .u64 c.amount], 27), some (g4, bs c.hash, 50)])  (hHeld : (fun w' => (w'.cell? ⟨gs, 0, none⟩ = some (.int .u64 c.id) ∧ w'.cell? ⟨gs, 1, none⟩ = some (.int .i64 c.side) ∧ w'.cell? ⟨gs, 2, none⟩ = some (.int .u64 c.amount) ∧ w'.cell? ⟨gs, 35, none⟩ = some (.int .u64 c.expiry)) ∧ CellsAt w' ⟨gs, 3, none⟩ (bs c.hash)) w'), wpAnyH Try.prog Region.Mode.any ops61 Q (fun w' => (w'.cell? ⟨gs, 0, none⟩ = some (.int .u64 c.id) ∧ w'.cell? ⟨gs, 1, none⟩ = some (.int .i64 c.side) ∧ w'.cell? ⟨gs, 2, none⟩ = some (.int .u64 c.amount) ∧ w'.cell? ⟨gs, 35, none⟩ = some (.int .u64 c.expiry)) ∧ CellsAt w' ⟨gs, 3, none⟩ (bs c.hash)) 7 #[true, true, true, true, false, true, true, true, true, false, true, true, true, false, true, true, true, false, true, true, false, false, false] ⟨#[.slice a0 l.length c0, .agg cs.toArray, undef, .pointer (some ⟨gs, 0, none⟩), .slice none 0 0, (.slice a0 l.length c0), (.pointer (some ⟨gs, 0, none⟩)), (.int .u64 c.id), .slice (some ⟨g1, 0, none⟩) 1 1, undef, (.pointer (some ⟨gs, 1, none⟩)), (.int .i64 c.side), (.int .u8 c.side), .slice (some ⟨g2, 0, none⟩) 1 1, undef, (.pointer (some ⟨gs, 2, none⟩)), (.int .u64 c.amount), .slice (some ⟨g3, 0, none⟩) 1 1, undef, (.pointer (some ⟨gs, 3, none⟩)), (.agg (bs c.hash).toArray), .slice (some ⟨g4, 0, none⟩) 1 1, undef, (.pointer (some ⟨gs, 35, none⟩)), (.int .u64 c.expiry), undef, undef], []⟩ w' := by
    intro w' g1 g2 g3 g4 hS  hHeld
    refine wpAnyH_ready (rs := [4, 20]) (by kernel_rfl) (by simp) ?_
    refine hcons rfl rfl (fun K hK => ?_) ?_
    · clear hHeld
      have hcall := oeight_ok x (.slice a0 l.length c0) l (.slice (some ⟨g1, 0, none⟩) 1 1) [c.id] _ (hS.get 0 rfl) Hv.out ((RowV.lit 27 1 g1 1 [.int .u64 c.id] rfl (by decide)).read (hS.get 2 rfl)) (hS.apart 0 2 rfl rfl (by decide)) Hn1.out (by omega) (by simp)
      refine owp_call rfl (by kernel_rfl) (args := #[.slice a0 l.length c0, .slice (some ⟨g1, 0, none⟩) 1 1]) rfl hcall ?_
      clear hcall
      rintro e w5 ⟨v4, x4, rfl, hrow4, hc⟩
      rw [eights_one, L1.out] at hrow4
      replace hS := hS.call1 (N := []) 0 rfl hc
      try simp only [List.cons_append, List.nil_append, List.append_nil, List.set_cons_zero, List.set_cons_succ] at hS
      clear hc
      obtain ⟨a4, c4, rfl⟩ := hrow4.isSl
      refine ⟨_, rfl, ?_⟩
      refine hK.out _ _ ⟨⟨(hS.get 1 rfl).cell 0 H0.out, (hS.get 1 rfl).cell 1 H1.out, (hS.get 1 rfl).cell 2 H2.out, (hS.get 1 rfl).cell 35 H35.out⟩, (hS.get 1 rfl).range 3 32 Hh.out⟩ (fun hHeld => ?_)
      clear hK K
      simp only [Act.put, List.setIfInBounds_toArray, List.set_cons_succ, List.set_cons_zero]
      exact wpAnyH_listed (by kernel_rfl) (st_16 _ g1 a4 c4 x4 g2 g3 g4 hS hrow4 hHeld)
    refine hcons rfl rfl (fun K hK => ?_) ?_
    · clear hHeld
      refine owp_bslice1 (vs := [.int .u64 c.expiry]) hS rfl rfl (by rfl) (by decide) ?_
      clear hS; intro g5 _ hS; try simp only [List.cons_append, List.nil_append, List.append_nil, List.set_cons_zero, List.set_cons_succ] at hS
      refine hK.out _ _ ⟨⟨(hS.get 1 rfl).cell 0 H0.out, (hS.get 1 rfl).cell 1 H1.out, (hS.get 1 rfl).cell 2 H2.out, (hS.get 1 rfl).cell 35 H35.out⟩, (hS.get 1 rfl).range 3 32 Hh.out⟩ (fun hHeld => ?_)
      clear hK K
      simp only [Act.put, List.setIfInBounds_toArray, List.set_cons_succ, List.set_cons_zero]
      exact wpAnyH_listed (by kernel_rfl) (st_31 _ g1 g2 g3 g4 g5 hS  hHeld)
    exact AllReadyH.nil
  have st_33 : ∀ (w' : World) (g1 : Nat) (g2 : Nat) (g3 : Nat) (g5 : Nat) (hS : St w (keys [x]) w' [x, some (gs, cs, 86), some (g1, [.int .u64 c.id], 27), some (g2, bs [UInt8.ofNat c.side.toNat], 5), some (g3, [.int .u64 c.amount], 27), some (g5, [.int .u64 c.expiry], 27)])  (hHeld : (fun w' => (w'.cell? ⟨gs, 0, none⟩ = some (.int .u64 c.id) ∧ w'.cell? ⟨gs, 1, none⟩ = some (.int .i64 c.side) ∧ w'.cell? ⟨gs, 2, none⟩ = some (.int .u64 c.amount) ∧ w'.cell? ⟨gs, 35, none⟩ = some (.int .u64 c.expiry)) ∧ CellsAt w' ⟨gs, 3, none⟩ (bs c.hash)) w'), wpAnyH Try.prog Region.Mode.any ops61 Q (fun w' => (w'.cell? ⟨gs, 0, none⟩ = some (.int .u64 c.id) ∧ w'.cell? ⟨gs, 1, none⟩ = some (.int .i64 c.side) ∧ w'.cell? ⟨gs, 2, none⟩ = some (.int .u64 c.amount) ∧ w'.cell? ⟨gs, 35, none⟩ = some (.int .u64 c.expiry)) ∧ CellsAt w' ⟨gs, 3, none⟩ (bs c.hash)) 7 #[true, true, true, true, false, true, true, true, true, false, true, true, true, false, true, true, false, false, true, true, true, false, false] ⟨#[.slice a0 l.length c0, .agg cs.toArray, undef, .pointer (some ⟨gs, 0, none⟩), .slice none 0 0, (.slice a0 l.length c0), (.pointer (some ⟨gs, 0, none⟩)), (.int .u64 c.id), .slice (some ⟨g1, 0, none⟩) 1 1, undef, (.pointer (some ⟨gs, 1, none⟩)), (.int .i64 c.side), (.int .u8 c.side), .slice (some ⟨g2, 0, none⟩) 1 1, undef, (.pointer (some ⟨gs, 2, none⟩)), (.int .u64 c.amount), .slice (some ⟨g3, 0, none⟩) 1 1, undef, (.pointer (some ⟨gs, 3, none⟩)), (.agg (bs c.hash).toArray), undef, undef, (.pointer (some ⟨gs, 35, none⟩)), (.int .u64 c.expiry), .slice (some ⟨g5, 0, none⟩) 1 1, undef], []⟩ w' := by
    intro w' g1 g2 g3 g5 hS  hHeld
    refine wpAnyH_ready (rs := [4, 16]) (by kernel_rfl) (by simp) ?_
    refine hcons rfl rfl (fun K hK => ?_) ?_
    · clear hHeld
      have hcall := oeight_ok x (.slice a0 l.length c0) l (.slice (some ⟨g1, 0, none⟩) 1 1) [c.id] _ (hS.get 0 rfl) Hv.out ((RowV.lit 27 1 g1 1 [.int .u64 c.id] rfl (by decide)).read (hS.get 2 rfl)) (hS.apart 0 2 rfl rfl (by decide)) Hn1.out (by omega) (by simp)
      refine owp_call rfl (by kernel_rfl) (args := #[.slice a0 l.length c0, .slice (some ⟨g1, 0, none⟩) 1 1]) rfl hcall ?_
      clear hcall
      rintro e w5 ⟨v4, x4, rfl, hrow4, hc⟩
      rw [eights_one, L1.out] at hrow4
      replace hS := hS.call1 (N := []) 0 rfl hc
      try simp only [List.cons_append, List.nil_append, List.append_nil, List.set_cons_zero, List.set_cons_succ] at hS
      clear hc
      obtain ⟨a4, c4, rfl⟩ := hrow4.isSl
      refine ⟨_, rfl, ?_⟩
      refine hK.out _ _ ⟨⟨(hS.get 1 rfl).cell 0 H0.out, (hS.get 1 rfl).cell 1 H1.out, (hS.get 1 rfl).cell 2 H2.out, (hS.get 1 rfl).cell 35 H35.out⟩, (hS.get 1 rfl).range 3 32 Hh.out⟩ (fun hHeld => ?_)
      clear hK K
      simp only [Act.put, List.setIfInBounds_toArray, List.set_cons_succ, List.set_cons_zero]
      exact wpAnyH_listed (by kernel_rfl) (st_17 _ g1 a4 c4 x4 g2 g3 g5 hS hrow4 hHeld)
    refine hcons rfl rfl (fun K hK => ?_) ?_
    · clear hHeld
      refine owp_bslice1 (vs := bs c.hash) hS rfl rfl Hhash.out (by decide) ?_
      clear hS; intro g4 _ hS; try simp only [List.cons_append, List.nil_append, List.append_nil, List.set_cons_zero, List.set_cons_succ] at hS
      refine hK.out _ _ ⟨⟨(hS.get 1 rfl).cell 0 H0.out, (hS.get 1 rfl).cell 1 H1.out, (hS.get 1 rfl).cell 2 H2.out, (hS.get 1 rfl).cell 35 H35.out⟩, (hS.get 1 rfl).range 3 32 Hh.out⟩ (fun hHeld => ?_)
      clear hK K
      simp only [Act.put, List.setIfInBounds_toArray, List.set_cons_succ, List.set_cons_zero]
      replace hS := hS.pick [0, 1, 2, 3, 4, 6, 5] rfl (by decide)
      exact wpAnyH_listed (by kernel_rfl) (st_31 _ g1 g2 g3 g4 g5 hS  hHeld)
    exact AllReadyH.nil
  have st_34 : ∀ (w' : World) (g1 : Nat) (g2 : Nat) (g3 : Nat) (hS : St w (keys [x]) w' [x, some (gs, cs, 86), some (g1, [.int .u64 c.id], 27), some (g2, bs [UInt8.ofNat c.side.toNat], 5), some (g3, [.int .u64 c.amount], 27)])  (hHeld : (fun w' => (w'.cell? ⟨gs, 0, none⟩ = some (.int .u64 c.id) ∧ w'.cell? ⟨gs, 1, none⟩ = some (.int .i64 c.side) ∧ w'.cell? ⟨gs, 2, none⟩ = some (.int .u64 c.amount) ∧ w'.cell? ⟨gs, 35, none⟩ = some (.int .u64 c.expiry)) ∧ CellsAt w' ⟨gs, 3, none⟩ (bs c.hash)) w'), wpAnyH Try.prog Region.Mode.any ops61 Q (fun w' => (w'.cell? ⟨gs, 0, none⟩ = some (.int .u64 c.id) ∧ w'.cell? ⟨gs, 1, none⟩ = some (.int .i64 c.side) ∧ w'.cell? ⟨gs, 2, none⟩ = some (.int .u64 c.amount) ∧ w'.cell? ⟨gs, 35, none⟩ = some (.int .u64 c.expiry)) ∧ CellsAt w' ⟨gs, 3, none⟩ (bs c.hash)) 8 #[true, true, true, true, false, true, true, true, true, false, true, true, true, false, true, true, false, false, true, true, false, false, false] ⟨#[.slice a0 l.length c0, .agg cs.toArray, undef, .pointer (some ⟨gs, 0, none⟩), .slice none 0 0, (.slice a0 l.length c0), (.pointer (some ⟨gs, 0, none⟩)), (.int .u64 c.id), .slice (some ⟨g1, 0, none⟩) 1 1, undef, (.pointer (some ⟨gs, 1, none⟩)), (.int .i64 c.side), (.int .u8 c.side), .slice (some ⟨g2, 0, none⟩) 1 1, undef, (.pointer (some ⟨gs, 2, none⟩)), (.int .u64 c.amount), .slice (some ⟨g3, 0, none⟩) 1 1, undef, (.pointer (some ⟨gs, 3, none⟩)), (.agg (bs c.hash).toArray), undef, undef, (.pointer (some ⟨gs, 35, none⟩)), (.int .u64 c.expiry), undef, undef], []⟩ w' := by
    intro w' g1 g2 g3 hS  hHeld
    refine wpAnyH_ready (rs := [4, 16, 20]) (by kernel_rfl) (by simp) ?_
    refine hcons rfl rfl (fun K hK => ?_) ?_
    · clear hHeld
      have hcall := oeight_ok x (.slice a0 l.length c0) l (.slice (some ⟨g1, 0, none⟩) 1 1) [c.id] _ (hS.get 0 rfl) Hv.out ((RowV.lit 27 1 g1 1 [.int .u64 c.id] rfl (by decide)).read (hS.get 2 rfl)) (hS.apart 0 2 rfl rfl (by decide)) Hn1.out (by omega) (by simp)
      refine owp_call rfl (by kernel_rfl) (args := #[.slice a0 l.length c0, .slice (some ⟨g1, 0, none⟩) 1 1]) rfl hcall ?_
      clear hcall
      rintro e w5 ⟨v4, x4, rfl, hrow4, hc⟩
      rw [eights_one, L1.out] at hrow4
      replace hS := hS.call1 (N := []) 0 rfl hc
      try simp only [List.cons_append, List.nil_append, List.append_nil, List.set_cons_zero, List.set_cons_succ] at hS
      clear hc
      obtain ⟨a4, c4, rfl⟩ := hrow4.isSl
      refine ⟨_, rfl, ?_⟩
      refine hK.out _ _ ⟨⟨(hS.get 1 rfl).cell 0 H0.out, (hS.get 1 rfl).cell 1 H1.out, (hS.get 1 rfl).cell 2 H2.out, (hS.get 1 rfl).cell 35 H35.out⟩, (hS.get 1 rfl).range 3 32 Hh.out⟩ (fun hHeld => ?_)
      clear hK K
      simp only [Act.put, List.setIfInBounds_toArray, List.set_cons_succ, List.set_cons_zero]
      exact wpAnyH_listed (by kernel_rfl) (st_18 _ g1 a4 c4 x4 g2 g3 hS hrow4 hHeld)
    refine hcons rfl rfl (fun K hK => ?_) ?_
    · clear hHeld
      refine owp_bslice1 (vs := bs c.hash) hS rfl rfl Hhash.out (by decide) ?_
      clear hS; intro g4 _ hS; try simp only [List.cons_append, List.nil_append, List.append_nil, List.set_cons_zero, List.set_cons_succ] at hS
      refine hK.out _ _ ⟨⟨(hS.get 1 rfl).cell 0 H0.out, (hS.get 1 rfl).cell 1 H1.out, (hS.get 1 rfl).cell 2 H2.out, (hS.get 1 rfl).cell 35 H35.out⟩, (hS.get 1 rfl).range 3 32 Hh.out⟩ (fun hHeld => ?_)
      clear hK K
      simp only [Act.put, List.setIfInBounds_toArray, List.set_cons_succ, List.set_cons_zero]
      exact wpAnyH_listed (by kernel_rfl) (st_32 _ g1 g2 g3 g4 hS  hHeld)
    refine hcons rfl rfl (fun K hK => ?_) ?_
    · clear hHeld
      refine owp_bslice1 (vs := [.int .u64 c.expiry]) hS rfl rfl (by rfl) (by decide) ?_
      clear hS; intro g5 _ hS; try simp only [List.cons_append, List.nil_append, List.append_nil, List.set_cons_zero, List.set_cons_succ] at hS
      refine hK.out _ _ ⟨⟨(hS.get 1 rfl).cell 0 H0.out, (hS.get 1 rfl).cell 1 H1.out, (hS.get 1 rfl).cell 2 H2.out, (hS.get 1 rfl).cell 35 H35.out⟩, (hS.get 1 rfl).range 3 32 Hh.out⟩ (fun hHeld => ?_)
      clear hK K
      simp only [Act.put, List.setIfInBounds_toArray, List.set_cons_succ, List.set_cons_zero]
      exact wpAnyH_listed (by kernel_rfl) (st_33 _ g1 g2 g3 g5 hS  hHeld)
    exact AllReadyH.nil
  have st_35 : ∀ (w' : World) (g1 : Nat) (g2 : Nat) (g4 : Nat) (g5 : Nat) (hS : St w (keys [x]) w' [x, some (gs, cs, 86), some (g1, [.int .u64 c.id], 27), some (g2, bs [UInt8.ofNat c.side.toNat], 5), some (g4, bs c.hash, 50), some (g5, [.int .u64 c.expiry], 27)])  (hHeld : (fun w' => (w'.cell? ⟨gs, 0, none⟩ = some (.int .u64 c.id) ∧ w'.cell? ⟨gs, 1, none⟩ = some (.int .i64 c.side) ∧ w'.cell? ⟨gs, 2, none⟩ = some (.int .u64 c.amount) ∧ w'.cell? ⟨gs, 35, none⟩ = some (.int .u64 c.expiry)) ∧ CellsAt w' ⟨gs, 3, none⟩ (bs c.hash)) w'), wpAnyH Try.prog Region.Mode.any ops61 Q (fun w' => (w'.cell? ⟨gs, 0, none⟩ = some (.int .u64 c.id) ∧ w'.cell? ⟨gs, 1, none⟩ = some (.int .i64 c.side) ∧ w'.cell? ⟨gs, 2, none⟩ = some (.int .u64 c.amount) ∧ w'.cell? ⟨gs, 35, none⟩ = some (.int .u64 c.expiry)) ∧ CellsAt w' ⟨gs, 3, none⟩ (bs c.hash)) 7 #[true, true, true, true, false, true, true, true, true, false, true, true, false, false, true, true, true, false, true, true, true, false, false] ⟨#[.slice a0 l.length c0, .agg cs.toArray, undef, .pointer (some ⟨gs, 0, none⟩), .slice none 0 0, (.slice a0 l.length c0), (.pointer (some ⟨gs, 0, none⟩)), (.int .u64 c.id), .slice (some ⟨g1, 0, none⟩) 1 1, undef, (.pointer (some ⟨gs, 1, none⟩)), (.int .i64 c.side), (.int .u8 c.side), .slice (some ⟨g2, 0, none⟩) 1 1, undef, (.pointer (some ⟨gs, 2, none⟩)), (.int .u64 c.amount), undef, undef, (.pointer (some ⟨gs, 3, none⟩)), (.agg (bs c.hash).toArray), .slice (some ⟨g4, 0, none⟩) 1 1, undef, (.pointer (some ⟨gs, 35, none⟩)), (.int .u64 c.expiry), .slice (some ⟨g5, 0, none⟩) 1 1, undef], []⟩ w' := by
    intro w' g1 g2 g4 g5 hS  hHeld
    refine wpAnyH_ready (rs := [4, 12]) (by kernel_rfl) (by simp) ?_
    refine hcons rfl rfl (fun K hK => ?_) ?_
    · clear hHeld
      have hcall := oeight_ok x (.slice a0 l.length c0) l (.slice (some ⟨g1, 0, none⟩) 1 1) [c.id] _ (hS.get 0 rfl) Hv.out ((RowV.lit 27 1 g1 1 [.int .u64 c.id] rfl (by decide)).read (hS.get 2 rfl)) (hS.apart 0 2 rfl rfl (by decide)) Hn1.out (by omega) (by simp)
      refine owp_call rfl (by kernel_rfl) (args := #[.slice a0 l.length c0, .slice (some ⟨g1, 0, none⟩) 1 1]) rfl hcall ?_
      clear hcall
      rintro e w5 ⟨v4, x4, rfl, hrow4, hc⟩
      rw [eights_one, L1.out] at hrow4
      replace hS := hS.call1 (N := []) 0 rfl hc
      try simp only [List.cons_append, List.nil_append, List.append_nil, List.set_cons_zero, List.set_cons_succ] at hS
      clear hc
      obtain ⟨a4, c4, rfl⟩ := hrow4.isSl
      refine ⟨_, rfl, ?_⟩
      refine hK.out _ _ ⟨⟨(hS.get 1 rfl).cell 0 H0.out, (hS.get 1 rfl).cell 1 H1.out, (hS.get 1 rfl).cell 2 H2.out, (hS.get 1 rfl).cell 35 H35.out⟩, (hS.get 1 rfl).range 3 32 Hh.out⟩ (fun hHeld => ?_)
      clear hK K
      simp only [Act.put, List.setIfInBounds_toArray, List.set_cons_succ, List.set_cons_zero]
      exact wpAnyH_listed (by kernel_rfl) (st_19 _ g1 a4 c4 x4 g2 g4 g5 hS hrow4 hHeld)
    refine hcons rfl rfl (fun K hK => ?_) ?_
    · clear hHeld
      refine owp_bslice1 (vs := [.int .u64 c.amount]) hS rfl rfl (by rfl) (by decide) ?_
      clear hS; intro g3 _ hS; try simp only [List.cons_append, List.nil_append, List.append_nil, List.set_cons_zero, List.set_cons_succ] at hS
      refine hK.out _ _ ⟨⟨(hS.get 1 rfl).cell 0 H0.out, (hS.get 1 rfl).cell 1 H1.out, (hS.get 1 rfl).cell 2 H2.out, (hS.get 1 rfl).cell 35 H35.out⟩, (hS.get 1 rfl).range 3 32 Hh.out⟩ (fun hHeld => ?_)
      clear hK K
      simp only [Act.put, List.setIfInBounds_toArray, List.set_cons_succ, List.set_cons_zero]
      replace hS := hS.pick [0, 1, 2, 3, 6, 4, 5] rfl (by decide)
      exact wpAnyH_listed (by kernel_rfl) (st_31 _ g1 g2 g3 g4 g5 hS  hHeld)
    exact AllReadyH.nil
  have st_36 : ∀ (w' : World) (g1 : Nat) (g2 : Nat) (g4 : Nat) (hS : St w (keys [x]) w' [x, some (gs, cs, 86), some (g1, [.int .u64 c.id], 27), some (g2, bs [UInt8.ofNat c.side.toNat], 5), some (g4, bs c.hash, 50)])  (hHeld : (fun w' => (w'.cell? ⟨gs, 0, none⟩ = some (.int .u64 c.id) ∧ w'.cell? ⟨gs, 1, none⟩ = some (.int .i64 c.side) ∧ w'.cell? ⟨gs, 2, none⟩ = some (.int .u64 c.amount) ∧ w'.cell? ⟨gs, 35, none⟩ = some (.int .u64 c.expiry)) ∧ CellsAt w' ⟨gs, 3, none⟩ (bs c.hash)) w'), wpAnyH Try.prog Region.Mode.any ops61 Q (fun w' => (w'.cell? ⟨gs, 0, none⟩ = some (.int .u64 c.id) ∧ w'.cell? ⟨gs, 1, none⟩ = some (.int .i64 c.side) ∧ w'.cell? ⟨gs, 2, none⟩ = some (.int .u64 c.amount) ∧ w'.cell? ⟨gs, 35, none⟩ = some (.int .u64 c.expiry)) ∧ CellsAt w' ⟨gs, 3, none⟩ (bs c.hash)) 8 #[true, true, true, true, false, true, true, true, true, false, true, true, false, false, true, true, true, false, true, true, false, false, false] ⟨#[.slice a0 l.length c0, .agg cs.toArray, undef, .pointer (some ⟨gs, 0, none⟩), .slice none 0 0, (.slice a0 l.length c0), (.pointer (some ⟨gs, 0, none⟩)), (.int .u64 c.id), .slice (some ⟨g1, 0, none⟩) 1 1, undef, (.pointer (some ⟨gs, 1, none⟩)), (.int .i64 c.side), (.int .u8 c.side), .slice (some ⟨g2, 0, none⟩) 1 1, undef, (.pointer (some ⟨gs, 2, none⟩)), (.int .u64 c.amount), undef, undef, (.pointer (some ⟨gs, 3, none⟩)), (.agg (bs c.hash).toArray), .slice (some ⟨g4, 0, none⟩) 1 1, undef, (.pointer (some ⟨gs, 35, none⟩)), (.int .u64 c.expiry), undef, undef], []⟩ w' := by
    intro w' g1 g2 g4 hS  hHeld
    refine wpAnyH_ready (rs := [4, 12, 20]) (by kernel_rfl) (by simp) ?_
    refine hcons rfl rfl (fun K hK => ?_) ?_
    · clear hHeld
      have hcall := oeight_ok x (.slice a0 l.length c0) l (.slice (some ⟨g1, 0, none⟩) 1 1) [c.id] _ (hS.get 0 rfl) Hv.out ((RowV.lit 27 1 g1 1 [.int .u64 c.id] rfl (by decide)).read (hS.get 2 rfl)) (hS.apart 0 2 rfl rfl (by decide)) Hn1.out (by omega) (by simp)
      refine owp_call rfl (by kernel_rfl) (args := #[.slice a0 l.length c0, .slice (some ⟨g1, 0, none⟩) 1 1]) rfl hcall ?_
      clear hcall
      rintro e w5 ⟨v4, x4, rfl, hrow4, hc⟩
      rw [eights_one, L1.out] at hrow4
      replace hS := hS.call1 (N := []) 0 rfl hc
      try simp only [List.cons_append, List.nil_append, List.append_nil, List.set_cons_zero, List.set_cons_succ] at hS
      clear hc
      obtain ⟨a4, c4, rfl⟩ := hrow4.isSl
      refine ⟨_, rfl, ?_⟩
      refine hK.out _ _ ⟨⟨(hS.get 1 rfl).cell 0 H0.out, (hS.get 1 rfl).cell 1 H1.out, (hS.get 1 rfl).cell 2 H2.out, (hS.get 1 rfl).cell 35 H35.out⟩, (hS.get 1 rfl).range 3 32 Hh.out⟩ (fun hHeld => ?_)
      clear hK K
      simp only [Act.put, List.setIfInBounds_toArray, List.set_cons_succ, List.set_cons_zero]
      exact wpAnyH_listed (by kernel_rfl) (st_20 _ g1 a4 c4 x4 g2 g4 hS hrow4 hHeld)
    refine hcons rfl rfl (fun K hK => ?_) ?_
    · clear hHeld
      refine owp_bslice1 (vs := [.int .u64 c.amount]) hS rfl rfl (by rfl) (by decide) ?_
      clear hS; intro g3 _ hS; try simp only [List.cons_append, List.nil_append, List.append_nil, List.set_cons_zero, List.set_cons_succ] at hS
      refine hK.out _ _ ⟨⟨(hS.get 1 rfl).cell 0 H0.out, (hS.get 1 rfl).cell 1 H1.out, (hS.get 1 rfl).cell 2 H2.out, (hS.get 1 rfl).cell 35 H35.out⟩, (hS.get 1 rfl).range 3 32 Hh.out⟩ (fun hHeld => ?_)
      clear hK K
      simp only [Act.put, List.setIfInBounds_toArray, List.set_cons_succ, List.set_cons_zero]
      replace hS := hS.pick [0, 1, 2, 3, 5, 4] rfl (by decide)
      exact wpAnyH_listed (by kernel_rfl) (st_32 _ g1 g2 g3 g4 hS  hHeld)
    refine hcons rfl rfl (fun K hK => ?_) ?_
    · clear hHeld
      refine owp_bslice1 (vs := [.int .u64 c.expiry]) hS rfl rfl (by rfl) (by decide) ?_
      clear hS; intro g5 _ hS; try simp only [List.cons_append, List.nil_append, List.append_nil, List.set_cons_zero, List.set_cons_succ] at hS
      refine hK.out _ _ ⟨⟨(hS.get 1 rfl).cell 0 H0.out, (hS.get 1 rfl).cell 1 H1.out, (hS.get 1 rfl).cell 2 H2.out, (hS.get 1 rfl).cell 35 H35.out⟩, (hS.get 1 rfl).range 3 32 Hh.out⟩ (fun hHeld => ?_)
      clear hK K
      simp only [Act.put, List.setIfInBounds_toArray, List.set_cons_succ, List.set_cons_zero]
      exact wpAnyH_listed (by kernel_rfl) (st_35 _ g1 g2 g4 g5 hS  hHeld)
    exact AllReadyH.nil
  have st_37 : ∀ (w' : World) (g1 : Nat) (g2 : Nat) (g5 : Nat) (hS : St w (keys [x]) w' [x, some (gs, cs, 86), some (g1, [.int .u64 c.id], 27), some (g2, bs [UInt8.ofNat c.side.toNat], 5), some (g5, [.int .u64 c.expiry], 27)])  (hHeld : (fun w' => (w'.cell? ⟨gs, 0, none⟩ = some (.int .u64 c.id) ∧ w'.cell? ⟨gs, 1, none⟩ = some (.int .i64 c.side) ∧ w'.cell? ⟨gs, 2, none⟩ = some (.int .u64 c.amount) ∧ w'.cell? ⟨gs, 35, none⟩ = some (.int .u64 c.expiry)) ∧ CellsAt w' ⟨gs, 3, none⟩ (bs c.hash)) w'), wpAnyH Try.prog Region.Mode.any ops61 Q (fun w' => (w'.cell? ⟨gs, 0, none⟩ = some (.int .u64 c.id) ∧ w'.cell? ⟨gs, 1, none⟩ = some (.int .i64 c.side) ∧ w'.cell? ⟨gs, 2, none⟩ = some (.int .u64 c.amount) ∧ w'.cell? ⟨gs, 35, none⟩ = some (.int .u64 c.expiry)) ∧ CellsAt w' ⟨gs, 3, none⟩ (bs c.hash)) 8 #[true, true, true, true, false, true, true, true, true, false, true, true, false, false, true, true, false, false, true, true, true, false, false] ⟨#[.slice a0 l.length c0, .agg cs.toArray, undef, .pointer (some ⟨gs, 0, none⟩), .slice none 0 0, (.slice a0 l.length c0), (.pointer (some ⟨gs, 0, none⟩)), (.int .u64 c.id), .slice (some ⟨g1, 0, none⟩) 1 1, undef, (.pointer (some ⟨gs, 1, none⟩)), (.int .i64 c.side), (.int .u8 c.side), .slice (some ⟨g2, 0, none⟩) 1 1, undef, (.pointer (some ⟨gs, 2, none⟩)), (.int .u64 c.amount), undef, undef, (.pointer (some ⟨gs, 3, none⟩)), (.agg (bs c.hash).toArray), undef, undef, (.pointer (some ⟨gs, 35, none⟩)), (.int .u64 c.expiry), .slice (some ⟨g5, 0, none⟩) 1 1, undef], []⟩ w' := by
    intro w' g1 g2 g5 hS  hHeld
    refine wpAnyH_ready (rs := [4, 12, 16]) (by kernel_rfl) (by simp) ?_
    refine hcons rfl rfl (fun K hK => ?_) ?_
    · clear hHeld
      have hcall := oeight_ok x (.slice a0 l.length c0) l (.slice (some ⟨g1, 0, none⟩) 1 1) [c.id] _ (hS.get 0 rfl) Hv.out ((RowV.lit 27 1 g1 1 [.int .u64 c.id] rfl (by decide)).read (hS.get 2 rfl)) (hS.apart 0 2 rfl rfl (by decide)) Hn1.out (by omega) (by simp)
      refine owp_call rfl (by kernel_rfl) (args := #[.slice a0 l.length c0, .slice (some ⟨g1, 0, none⟩) 1 1]) rfl hcall ?_
      clear hcall
      rintro e w5 ⟨v4, x4, rfl, hrow4, hc⟩
      rw [eights_one, L1.out] at hrow4
      replace hS := hS.call1 (N := []) 0 rfl hc
      try simp only [List.cons_append, List.nil_append, List.append_nil, List.set_cons_zero, List.set_cons_succ] at hS
      clear hc
      obtain ⟨a4, c4, rfl⟩ := hrow4.isSl
      refine ⟨_, rfl, ?_⟩
      refine hK.out _ _ ⟨⟨(hS.get 1 rfl).cell 0 H0.out, (hS.get 1 rfl).cell 1 H1.out, (hS.get 1 rfl).cell 2 H2.out, (hS.get 1 rfl).cell 35 H35.out⟩, (hS.get 1 rfl).range 3 32 Hh.out⟩ (fun hHeld => ?_)
      clear hK K
      simp only [Act.put, List.setIfInBounds_toArray, List.set_cons_succ, List.set_cons_zero]
      exact wpAnyH_listed (by kernel_rfl) (st_21 _ g1 a4 c4 x4 g2 g5 hS hrow4 hHeld)
    refine hcons rfl rfl (fun K hK => ?_) ?_
    · clear hHeld
      refine owp_bslice1 (vs := [.int .u64 c.amount]) hS rfl rfl (by rfl) (by decide) ?_
      clear hS; intro g3 _ hS; try simp only [List.cons_append, List.nil_append, List.append_nil, List.set_cons_zero, List.set_cons_succ] at hS
      refine hK.out _ _ ⟨⟨(hS.get 1 rfl).cell 0 H0.out, (hS.get 1 rfl).cell 1 H1.out, (hS.get 1 rfl).cell 2 H2.out, (hS.get 1 rfl).cell 35 H35.out⟩, (hS.get 1 rfl).range 3 32 Hh.out⟩ (fun hHeld => ?_)
      clear hK K
      simp only [Act.put, List.setIfInBounds_toArray, List.set_cons_succ, List.set_cons_zero]
      replace hS := hS.pick [0, 1, 2, 3, 5, 4] rfl (by decide)
      exact wpAnyH_listed (by kernel_rfl) (st_33 _ g1 g2 g3 g5 hS  hHeld)
    refine hcons rfl rfl (fun K hK => ?_) ?_
    · clear hHeld
      refine owp_bslice1 (vs := bs c.hash) hS rfl rfl Hhash.out (by decide) ?_
      clear hS; intro g4 _ hS; try simp only [List.cons_append, List.nil_append, List.append_nil, List.set_cons_zero, List.set_cons_succ] at hS
      refine hK.out _ _ ⟨⟨(hS.get 1 rfl).cell 0 H0.out, (hS.get 1 rfl).cell 1 H1.out, (hS.get 1 rfl).cell 2 H2.out, (hS.get 1 rfl).cell 35 H35.out⟩, (hS.get 1 rfl).range 3 32 Hh.out⟩ (fun hHeld => ?_)
      clear hK K
      simp only [Act.put, List.setIfInBounds_toArray, List.set_cons_succ, List.set_cons_zero]
      replace hS := hS.pick [0, 1, 2, 3, 5, 4] rfl (by decide)
      exact wpAnyH_listed (by kernel_rfl) (st_35 _ g1 g2 g4 g5 hS  hHeld)
    exact AllReadyH.nil
  have st_38 : ∀ (w' : World) (g1 : Nat) (g2 : Nat) (hS : St w (keys [x]) w' [x, some (gs, cs, 86), some (g1, [.int .u64 c.id], 27), some (g2, bs [UInt8.ofNat c.side.toNat], 5)])  (hHeld : (fun w' => (w'.cell? ⟨gs, 0, none⟩ = some (.int .u64 c.id) ∧ w'.cell? ⟨gs, 1, none⟩ = some (.int .i64 c.side) ∧ w'.cell? ⟨gs, 2, none⟩ = some (.int .u64 c.amount) ∧ w'.cell? ⟨gs, 35, none⟩ = some (.int .u64 c.expiry)) ∧ CellsAt w' ⟨gs, 3, none⟩ (bs c.hash)) w'), wpAnyH Try.prog Region.Mode.any ops61 Q (fun w' => (w'.cell? ⟨gs, 0, none⟩ = some (.int .u64 c.id) ∧ w'.cell? ⟨gs, 1, none⟩ = some (.int .i64 c.side) ∧ w'.cell? ⟨gs, 2, none⟩ = some (.int .u64 c.amount) ∧ w'.cell? ⟨gs, 35, none⟩ = some (.int .u64 c.expiry)) ∧ CellsAt w' ⟨gs, 3, none⟩ (bs c.hash)) 9 #[true, true, true, true, false, true, true, true, true, false, true, true, false, false, true, true, false, false, true, true, false, false, false] ⟨#[.slice a0 l.length c0, .agg cs.toArray, undef, .pointer (some ⟨gs, 0, none⟩), .slice none 0 0, (.slice a0 l.length c0), (.pointer (some ⟨gs, 0, none⟩)), (.int .u64 c.id), .slice (some ⟨g1, 0, none⟩) 1 1, undef, (.pointer (some ⟨gs, 1, none⟩)), (.int .i64 c.side), (.int .u8 c.side), .slice (some ⟨g2, 0, none⟩) 1 1, undef, (.pointer (some ⟨gs, 2, none⟩)), (.int .u64 c.amount), undef, undef, (.pointer (some ⟨gs, 3, none⟩)), (.agg (bs c.hash).toArray), undef, undef, (.pointer (some ⟨gs, 35, none⟩)), (.int .u64 c.expiry), undef, undef], []⟩ w' := by
    intro w' g1 g2 hS  hHeld
    refine wpAnyH_ready (rs := [4, 12, 16, 20]) (by kernel_rfl) (by simp) ?_
    refine hcons rfl rfl (fun K hK => ?_) ?_
    · clear hHeld
      have hcall := oeight_ok x (.slice a0 l.length c0) l (.slice (some ⟨g1, 0, none⟩) 1 1) [c.id] _ (hS.get 0 rfl) Hv.out ((RowV.lit 27 1 g1 1 [.int .u64 c.id] rfl (by decide)).read (hS.get 2 rfl)) (hS.apart 0 2 rfl rfl (by decide)) Hn1.out (by omega) (by simp)
      refine owp_call rfl (by kernel_rfl) (args := #[.slice a0 l.length c0, .slice (some ⟨g1, 0, none⟩) 1 1]) rfl hcall ?_
      clear hcall
      rintro e w5 ⟨v4, x4, rfl, hrow4, hc⟩
      rw [eights_one, L1.out] at hrow4
      replace hS := hS.call1 (N := []) 0 rfl hc
      try simp only [List.cons_append, List.nil_append, List.append_nil, List.set_cons_zero, List.set_cons_succ] at hS
      clear hc
      obtain ⟨a4, c4, rfl⟩ := hrow4.isSl
      refine ⟨_, rfl, ?_⟩
      refine hK.out _ _ ⟨⟨(hS.get 1 rfl).cell 0 H0.out, (hS.get 1 rfl).cell 1 H1.out, (hS.get 1 rfl).cell 2 H2.out, (hS.get 1 rfl).cell 35 H35.out⟩, (hS.get 1 rfl).range 3 32 Hh.out⟩ (fun hHeld => ?_)
      clear hK K
      simp only [Act.put, List.setIfInBounds_toArray, List.set_cons_succ, List.set_cons_zero]
      exact wpAnyH_listed (by kernel_rfl) (st_22 _ g1 a4 c4 x4 g2 hS hrow4 hHeld)
    refine hcons rfl rfl (fun K hK => ?_) ?_
    · clear hHeld
      refine owp_bslice1 (vs := [.int .u64 c.amount]) hS rfl rfl (by rfl) (by decide) ?_
      clear hS; intro g3 _ hS; try simp only [List.cons_append, List.nil_append, List.append_nil, List.set_cons_zero, List.set_cons_succ] at hS
      refine hK.out _ _ ⟨⟨(hS.get 1 rfl).cell 0 H0.out, (hS.get 1 rfl).cell 1 H1.out, (hS.get 1 rfl).cell 2 H2.out, (hS.get 1 rfl).cell 35 H35.out⟩, (hS.get 1 rfl).range 3 32 Hh.out⟩ (fun hHeld => ?_)
      clear hK K
      simp only [Act.put, List.setIfInBounds_toArray, List.set_cons_succ, List.set_cons_zero]
      exact wpAnyH_listed (by kernel_rfl) (st_34 _ g1 g2 g3 hS  hHeld)
    refine hcons rfl rfl (fun K hK => ?_) ?_
    · clear hHeld
      refine owp_bslice1 (vs := bs c.hash) hS rfl rfl Hhash.out (by decide) ?_
      clear hS; intro g4 _ hS; try simp only [List.cons_append, List.nil_append, List.append_nil, List.set_cons_zero, List.set_cons_succ] at hS
      refine hK.out _ _ ⟨⟨(hS.get 1 rfl).cell 0 H0.out, (hS.get 1 rfl).cell 1 H1.out, (hS.get 1 rfl).cell 2 H2.out, (hS.get 1 rfl).cell 35 H35.out⟩, (hS.get 1 rfl).range 3 32 Hh.out⟩ (fun hHeld => ?_)
      clear hK K
      simp only [Act.put, List.setIfInBounds_toArray, List.set_cons_succ, List.set_cons_zero]
      exact wpAnyH_listed (by kernel_rfl) (st_36 _ g1 g2 g4 hS  hHeld)
    refine hcons rfl rfl (fun K hK => ?_) ?_
    · clear hHeld
      refine owp_bslice1 (vs := [.int .u64 c.expiry]) hS rfl rfl (by rfl) (by decide) ?_
      clear hS; intro g5 _ hS; try simp only [List.cons_append, List.nil_append, List.append_nil, List.set_cons_zero, List.set_cons_succ] at hS
      refine hK.out _ _ ⟨⟨(hS.get 1 rfl).cell 0 H0.out, (hS.get 1 rfl).cell 1 H1.out, (hS.get 1 rfl).cell 2 H2.out, (hS.get 1 rfl).cell 35 H35.out⟩, (hS.get 1 rfl).range 3 32 Hh.out⟩ (fun hHeld => ?_)
      clear hK K
      simp only [Act.put, List.setIfInBounds_toArray, List.set_cons_succ, List.set_cons_zero]
      exact wpAnyH_listed (by kernel_rfl) (st_37 _ g1 g2 g5 hS  hHeld)
    exact AllReadyH.nil
  have st_39 : ∀ (w' : World) (g1 : Nat) (g3 : Nat) (g4 : Nat) (g5 : Nat) (hS : St w (keys [x]) w' [x, some (gs, cs, 86), some (g1, [.int .u64 c.id], 27), some (g3, [.int .u64 c.amount], 27), some (g4, bs c.hash, 50), some (g5, [.int .u64 c.expiry], 27)])  (hHeld : (fun w' => (w'.cell? ⟨gs, 0, none⟩ = some (.int .u64 c.id) ∧ w'.cell? ⟨gs, 1, none⟩ = some (.int .i64 c.side) ∧ w'.cell? ⟨gs, 2, none⟩ = some (.int .u64 c.amount) ∧ w'.cell? ⟨gs, 35, none⟩ = some (.int .u64 c.expiry)) ∧ CellsAt w' ⟨gs, 3, none⟩ (bs c.hash)) w'), wpAnyH Try.prog Region.Mode.any ops61 Q (fun w' => (w'.cell? ⟨gs, 0, none⟩ = some (.int .u64 c.id) ∧ w'.cell? ⟨gs, 1, none⟩ = some (.int .i64 c.side) ∧ w'.cell? ⟨gs, 2, none⟩ = some (.int .u64 c.amount) ∧ w'.cell? ⟨gs, 35, none⟩ = some (.int .u64 c.expiry)) ∧ CellsAt w' ⟨gs, 3, none⟩ (bs c.hash)) 7 #[true, true, true, true, false, true, true, true, false, false, true, true, true, false, true, true, true, false, true, true, true, false, false] ⟨#[.slice a0 l.length c0, .agg cs.toArray, undef, .pointer (some ⟨gs, 0, none⟩), .slice none 0 0, (.slice a0 l.length c0), (.pointer (some ⟨gs, 0, none⟩)), (.int .u64 c.id), .slice (some ⟨g1, 0, none⟩) 1 1, undef, (.pointer (some ⟨gs, 1, none⟩)), (.int .i64 c.side), (.int .u8 c.side), undef, undef, (.pointer (some ⟨gs, 2, none⟩)), (.int .u64 c.amount), .slice (some ⟨g3, 0, none⟩) 1 1, undef, (.pointer (some ⟨gs, 3, none⟩)), (.agg (bs c.hash).toArray), .slice (some ⟨g4, 0, none⟩) 1 1, undef, (.pointer (some ⟨gs, 35, none⟩)), (.int .u64 c.expiry), .slice (some ⟨g5, 0, none⟩) 1 1, undef], []⟩ w' := by
    intro w' g1 g3 g4 g5 hS  hHeld
    refine wpAnyH_ready (rs := [4, 8]) (by kernel_rfl) (by simp) ?_
    refine hcons rfl rfl (fun K hK => ?_) ?_
    · clear hHeld
      have hcall := oeight_ok x (.slice a0 l.length c0) l (.slice (some ⟨g1, 0, none⟩) 1 1) [c.id] _ (hS.get 0 rfl) Hv.out ((RowV.lit 27 1 g1 1 [.int .u64 c.id] rfl (by decide)).read (hS.get 2 rfl)) (hS.apart 0 2 rfl rfl (by decide)) Hn1.out (by omega) (by simp)
      refine owp_call rfl (by kernel_rfl) (args := #[.slice a0 l.length c0, .slice (some ⟨g1, 0, none⟩) 1 1]) rfl hcall ?_
      clear hcall
      rintro e w5 ⟨v4, x4, rfl, hrow4, hc⟩
      rw [eights_one, L1.out] at hrow4
      replace hS := hS.call1 (N := []) 0 rfl hc
      try simp only [List.cons_append, List.nil_append, List.append_nil, List.set_cons_zero, List.set_cons_succ] at hS
      clear hc
      obtain ⟨a4, c4, rfl⟩ := hrow4.isSl
      refine ⟨_, rfl, ?_⟩
      refine hK.out _ _ ⟨⟨(hS.get 1 rfl).cell 0 H0.out, (hS.get 1 rfl).cell 1 H1.out, (hS.get 1 rfl).cell 2 H2.out, (hS.get 1 rfl).cell 35 H35.out⟩, (hS.get 1 rfl).range 3 32 Hh.out⟩ (fun hHeld => ?_)
      clear hK K
      simp only [Act.put, List.setIfInBounds_toArray, List.set_cons_succ, List.set_cons_zero]
      exact wpAnyH_listed (by kernel_rfl) (st_23 _ g1 a4 c4 x4 g3 g4 g5 hS hrow4 hHeld)
    refine hcons rfl rfl (fun K hK => ?_) ?_
    · clear hHeld
      refine owp_bslice1 (vs := [.int .u8 c.side]) hS rfl rfl (by rfl) (by decide) ?_
      clear hS; intro g2 _ hS; try simp only [List.cons_append, List.nil_append, List.append_nil, List.set_cons_zero, List.set_cons_succ] at hS
      rw [← Hside.out] at hS
      refine hK.out _ _ ⟨⟨(hS.get 1 rfl).cell 0 H0.out, (hS.get 1 rfl).cell 1 H1.out, (hS.get 1 rfl).cell 2 H2.out, (hS.get 1 rfl).cell 35 H35.out⟩, (hS.get 1 rfl).range 3 32 Hh.out⟩ (fun hHeld => ?_)
      clear hK K
      simp only [Act.put, List.setIfInBounds_toArray, List.set_cons_succ, List.set_cons_zero]
      replace hS := hS.pick [0, 1, 2, 6, 3, 4, 5] rfl (by decide)
      exact wpAnyH_listed (by kernel_rfl) (st_31 _ g1 g2 g3 g4 g5 hS  hHeld)
    exact AllReadyH.nil
  have st_40 : ∀ (w' : World) (g1 : Nat) (g3 : Nat) (g4 : Nat) (hS : St w (keys [x]) w' [x, some (gs, cs, 86), some (g1, [.int .u64 c.id], 27), some (g3, [.int .u64 c.amount], 27), some (g4, bs c.hash, 50)])  (hHeld : (fun w' => (w'.cell? ⟨gs, 0, none⟩ = some (.int .u64 c.id) ∧ w'.cell? ⟨gs, 1, none⟩ = some (.int .i64 c.side) ∧ w'.cell? ⟨gs, 2, none⟩ = some (.int .u64 c.amount) ∧ w'.cell? ⟨gs, 35, none⟩ = some (.int .u64 c.expiry)) ∧ CellsAt w' ⟨gs, 3, none⟩ (bs c.hash)) w'), wpAnyH Try.prog Region.Mode.any ops61 Q (fun w' => (w'.cell? ⟨gs, 0, none⟩ = some (.int .u64 c.id) ∧ w'.cell? ⟨gs, 1, none⟩ = some (.int .i64 c.side) ∧ w'.cell? ⟨gs, 2, none⟩ = some (.int .u64 c.amount) ∧ w'.cell? ⟨gs, 35, none⟩ = some (.int .u64 c.expiry)) ∧ CellsAt w' ⟨gs, 3, none⟩ (bs c.hash)) 8 #[true, true, true, true, false, true, true, true, false, false, true, true, true, false, true, true, true, false, true, true, false, false, false] ⟨#[.slice a0 l.length c0, .agg cs.toArray, undef, .pointer (some ⟨gs, 0, none⟩), .slice none 0 0, (.slice a0 l.length c0), (.pointer (some ⟨gs, 0, none⟩)), (.int .u64 c.id), .slice (some ⟨g1, 0, none⟩) 1 1, undef, (.pointer (some ⟨gs, 1, none⟩)), (.int .i64 c.side), (.int .u8 c.side), undef, undef, (.pointer (some ⟨gs, 2, none⟩)), (.int .u64 c.amount), .slice (some ⟨g3, 0, none⟩) 1 1, undef, (.pointer (some ⟨gs, 3, none⟩)), (.agg (bs c.hash).toArray), .slice (some ⟨g4, 0, none⟩) 1 1, undef, (.pointer (some ⟨gs, 35, none⟩)), (.int .u64 c.expiry), undef, undef], []⟩ w' := by
    intro w' g1 g3 g4 hS  hHeld
    refine wpAnyH_ready (rs := [4, 8, 20]) (by kernel_rfl) (by simp) ?_
    refine hcons rfl rfl (fun K hK => ?_) ?_
    · clear hHeld
      have hcall := oeight_ok x (.slice a0 l.length c0) l (.slice (some ⟨g1, 0, none⟩) 1 1) [c.id] _ (hS.get 0 rfl) Hv.out ((RowV.lit 27 1 g1 1 [.int .u64 c.id] rfl (by decide)).read (hS.get 2 rfl)) (hS.apart 0 2 rfl rfl (by decide)) Hn1.out (by omega) (by simp)
      refine owp_call rfl (by kernel_rfl) (args := #[.slice a0 l.length c0, .slice (some ⟨g1, 0, none⟩) 1 1]) rfl hcall ?_
      clear hcall
      rintro e w5 ⟨v4, x4, rfl, hrow4, hc⟩
      rw [eights_one, L1.out] at hrow4
      replace hS := hS.call1 (N := []) 0 rfl hc
      try simp only [List.cons_append, List.nil_append, List.append_nil, List.set_cons_zero, List.set_cons_succ] at hS
      clear hc
      obtain ⟨a4, c4, rfl⟩ := hrow4.isSl
      refine ⟨_, rfl, ?_⟩
      refine hK.out _ _ ⟨⟨(hS.get 1 rfl).cell 0 H0.out, (hS.get 1 rfl).cell 1 H1.out, (hS.get 1 rfl).cell 2 H2.out, (hS.get 1 rfl).cell 35 H35.out⟩, (hS.get 1 rfl).range 3 32 Hh.out⟩ (fun hHeld => ?_)
      clear hK K
      simp only [Act.put, List.setIfInBounds_toArray, List.set_cons_succ, List.set_cons_zero]
      exact wpAnyH_listed (by kernel_rfl) (st_24 _ g1 a4 c4 x4 g3 g4 hS hrow4 hHeld)
    refine hcons rfl rfl (fun K hK => ?_) ?_
    · clear hHeld
      refine owp_bslice1 (vs := [.int .u8 c.side]) hS rfl rfl (by rfl) (by decide) ?_
      clear hS; intro g2 _ hS; try simp only [List.cons_append, List.nil_append, List.append_nil, List.set_cons_zero, List.set_cons_succ] at hS
      rw [← Hside.out] at hS
      refine hK.out _ _ ⟨⟨(hS.get 1 rfl).cell 0 H0.out, (hS.get 1 rfl).cell 1 H1.out, (hS.get 1 rfl).cell 2 H2.out, (hS.get 1 rfl).cell 35 H35.out⟩, (hS.get 1 rfl).range 3 32 Hh.out⟩ (fun hHeld => ?_)
      clear hK K
      simp only [Act.put, List.setIfInBounds_toArray, List.set_cons_succ, List.set_cons_zero]
      replace hS := hS.pick [0, 1, 2, 5, 3, 4] rfl (by decide)
      exact wpAnyH_listed (by kernel_rfl) (st_32 _ g1 g2 g3 g4 hS  hHeld)
    refine hcons rfl rfl (fun K hK => ?_) ?_
    · clear hHeld
      refine owp_bslice1 (vs := [.int .u64 c.expiry]) hS rfl rfl (by rfl) (by decide) ?_
      clear hS; intro g5 _ hS; try simp only [List.cons_append, List.nil_append, List.append_nil, List.set_cons_zero, List.set_cons_succ] at hS
      refine hK.out _ _ ⟨⟨(hS.get 1 rfl).cell 0 H0.out, (hS.get 1 rfl).cell 1 H1.out, (hS.get 1 rfl).cell 2 H2.out, (hS.get 1 rfl).cell 35 H35.out⟩, (hS.get 1 rfl).range 3 32 Hh.out⟩ (fun hHeld => ?_)
      clear hK K
      simp only [Act.put, List.setIfInBounds_toArray, List.set_cons_succ, List.set_cons_zero]
      exact wpAnyH_listed (by kernel_rfl) (st_39 _ g1 g3 g4 g5 hS  hHeld)
    exact AllReadyH.nil
  have st_41 : ∀ (w' : World) (g1 : Nat) (g3 : Nat) (g5 : Nat) (hS : St w (keys [x]) w' [x, some (gs, cs, 86), some (g1, [.int .u64 c.id], 27), some (g3, [.int .u64 c.amount], 27), some (g5, [.int .u64 c.expiry], 27)])  (hHeld : (fun w' => (w'.cell? ⟨gs, 0, none⟩ = some (.int .u64 c.id) ∧ w'.cell? ⟨gs, 1, none⟩ = some (.int .i64 c.side) ∧ w'.cell? ⟨gs, 2, none⟩ = some (.int .u64 c.amount) ∧ w'.cell? ⟨gs, 35, none⟩ = some (.int .u64 c.expiry)) ∧ CellsAt w' ⟨gs, 3, none⟩ (bs c.hash)) w'), wpAnyH Try.prog Region.Mode.any ops61 Q (fun w' => (w'.cell? ⟨gs, 0, none⟩ = some (.int .u64 c.id) ∧ w'.cell? ⟨gs, 1, none⟩ = some (.int .i64 c.side) ∧ w'.cell? ⟨gs, 2, none⟩ = some (.int .u64 c.amount) ∧ w'.cell? ⟨gs, 35, none⟩ = some (.int .u64 c.expiry)) ∧ CellsAt w' ⟨gs, 3, none⟩ (bs c.hash)) 8 #[true, true, true, true, false, true, true, true, false, false, true, true, true, false, true, true, false, false, true, true, true, false, false] ⟨#[.slice a0 l.length c0, .agg cs.toArray, undef, .pointer (some ⟨gs, 0, none⟩), .slice none 0 0, (.slice a0 l.length c0), (.pointer (some ⟨gs, 0, none⟩)), (.int .u64 c.id), .slice (some ⟨g1, 0, none⟩) 1 1, undef, (.pointer (some ⟨gs, 1, none⟩)), (.int .i64 c.side), (.int .u8 c.side), undef, undef, (.pointer (some ⟨gs, 2, none⟩)), (.int .u64 c.amount), .slice (some ⟨g3, 0, none⟩) 1 1, undef, (.pointer (some ⟨gs, 3, none⟩)), (.agg (bs c.hash).toArray), undef, undef, (.pointer (some ⟨gs, 35, none⟩)), (.int .u64 c.expiry), .slice (some ⟨g5, 0, none⟩) 1 1, undef], []⟩ w' := by
    intro w' g1 g3 g5 hS  hHeld
    refine wpAnyH_ready (rs := [4, 8, 16]) (by kernel_rfl) (by simp) ?_
    refine hcons rfl rfl (fun K hK => ?_) ?_
    · clear hHeld
      have hcall := oeight_ok x (.slice a0 l.length c0) l (.slice (some ⟨g1, 0, none⟩) 1 1) [c.id] _ (hS.get 0 rfl) Hv.out ((RowV.lit 27 1 g1 1 [.int .u64 c.id] rfl (by decide)).read (hS.get 2 rfl)) (hS.apart 0 2 rfl rfl (by decide)) Hn1.out (by omega) (by simp)
      refine owp_call rfl (by kernel_rfl) (args := #[.slice a0 l.length c0, .slice (some ⟨g1, 0, none⟩) 1 1]) rfl hcall ?_
      clear hcall
      rintro e w5 ⟨v4, x4, rfl, hrow4, hc⟩
      rw [eights_one, L1.out] at hrow4
      replace hS := hS.call1 (N := []) 0 rfl hc
      try simp only [List.cons_append, List.nil_append, List.append_nil, List.set_cons_zero, List.set_cons_succ] at hS
      clear hc
      obtain ⟨a4, c4, rfl⟩ := hrow4.isSl
      refine ⟨_, rfl, ?_⟩
      refine hK.out _ _ ⟨⟨(hS.get 1 rfl).cell 0 H0.out, (hS.get 1 rfl).cell 1 H1.out, (hS.get 1 rfl).cell 2 H2.out, (hS.get 1 rfl).cell 35 H35.out⟩, (hS.get 1 rfl).range 3 32 Hh.out⟩ (fun hHeld => ?_)
      clear hK K
      simp only [Act.put, List.setIfInBounds_toArray, List.set_cons_succ, List.set_cons_zero]
      exact wpAnyH_listed (by kernel_rfl) (st_25 _ g1 a4 c4 x4 g3 g5 hS hrow4 hHeld)
    refine hcons rfl rfl (fun K hK => ?_) ?_
    · clear hHeld
      refine owp_bslice1 (vs := [.int .u8 c.side]) hS rfl rfl (by rfl) (by decide) ?_
      clear hS; intro g2 _ hS; try simp only [List.cons_append, List.nil_append, List.append_nil, List.set_cons_zero, List.set_cons_succ] at hS
      rw [← Hside.out] at hS
      refine hK.out _ _ ⟨⟨(hS.get 1 rfl).cell 0 H0.out, (hS.get 1 rfl).cell 1 H1.out, (hS.get 1 rfl).cell 2 H2.out, (hS.get 1 rfl).cell 35 H35.out⟩, (hS.get 1 rfl).range 3 32 Hh.out⟩ (fun hHeld => ?_)
      clear hK K
      simp only [Act.put, List.setIfInBounds_toArray, List.set_cons_succ, List.set_cons_zero]
      replace hS := hS.pick [0, 1, 2, 5, 3, 4] rfl (by decide)
      exact wpAnyH_listed (by kernel_rfl) (st_33 _ g1 g2 g3 g5 hS  hHeld)
    refine hcons rfl rfl (fun K hK => ?_) ?_
    · clear hHeld
      refine owp_bslice1 (vs := bs c.hash) hS rfl rfl Hhash.out (by decide) ?_
      clear hS; intro g4 _ hS; try simp only [List.cons_append, List.nil_append, List.append_nil, List.set_cons_zero, List.set_cons_succ] at hS
      refine hK.out _ _ ⟨⟨(hS.get 1 rfl).cell 0 H0.out, (hS.get 1 rfl).cell 1 H1.out, (hS.get 1 rfl).cell 2 H2.out, (hS.get 1 rfl).cell 35 H35.out⟩, (hS.get 1 rfl).range 3 32 Hh.out⟩ (fun hHeld => ?_)
      clear hK K
      simp only [Act.put, List.setIfInBounds_toArray, List.set_cons_succ, List.set_cons_zero]
      replace hS := hS.pick [0, 1, 2, 3, 5, 4] rfl (by decide)
      exact wpAnyH_listed (by kernel_rfl) (st_39 _ g1 g3 g4 g5 hS  hHeld)
    exact AllReadyH.nil
  have st_42 : ∀ (w' : World) (g1 : Nat) (g3 : Nat) (hS : St w (keys [x]) w' [x, some (gs, cs, 86), some (g1, [.int .u64 c.id], 27), some (g3, [.int .u64 c.amount], 27)])  (hHeld : (fun w' => (w'.cell? ⟨gs, 0, none⟩ = some (.int .u64 c.id) ∧ w'.cell? ⟨gs, 1, none⟩ = some (.int .i64 c.side) ∧ w'.cell? ⟨gs, 2, none⟩ = some (.int .u64 c.amount) ∧ w'.cell? ⟨gs, 35, none⟩ = some (.int .u64 c.expiry)) ∧ CellsAt w' ⟨gs, 3, none⟩ (bs c.hash)) w'), wpAnyH Try.prog Region.Mode.any ops61 Q (fun w' => (w'.cell? ⟨gs, 0, none⟩ = some (.int .u64 c.id) ∧ w'.cell? ⟨gs, 1, none⟩ = some (.int .i64 c.side) ∧ w'.cell? ⟨gs, 2, none⟩ = some (.int .u64 c.amount) ∧ w'.cell? ⟨gs, 35, none⟩ = some (.int .u64 c.expiry)) ∧ CellsAt w' ⟨gs, 3, none⟩ (bs c.hash)) 9 #[true, true, true, true, false, true, true, true, false, false, true, true, true, false, true, true, false, false, true, true, false, false, false] ⟨#[.slice a0 l.length c0, .agg cs.toArray, undef, .pointer (some ⟨gs, 0, none⟩), .slice none 0 0, (.slice a0 l.length c0), (.pointer (some ⟨gs, 0, none⟩)), (.int .u64 c.id), .slice (some ⟨g1, 0, none⟩) 1 1, undef, (.pointer (some ⟨gs, 1, none⟩)), (.int .i64 c.side), (.int .u8 c.side), undef, undef, (.pointer (some ⟨gs, 2, none⟩)), (.int .u64 c.amount), .slice (some ⟨g3, 0, none⟩) 1 1, undef, (.pointer (some ⟨gs, 3, none⟩)), (.agg (bs c.hash).toArray), undef, undef, (.pointer (some ⟨gs, 35, none⟩)), (.int .u64 c.expiry), undef, undef], []⟩ w' := by
    intro w' g1 g3 hS  hHeld
    refine wpAnyH_ready (rs := [4, 8, 16, 20]) (by kernel_rfl) (by simp) ?_
    refine hcons rfl rfl (fun K hK => ?_) ?_
    · clear hHeld
      have hcall := oeight_ok x (.slice a0 l.length c0) l (.slice (some ⟨g1, 0, none⟩) 1 1) [c.id] _ (hS.get 0 rfl) Hv.out ((RowV.lit 27 1 g1 1 [.int .u64 c.id] rfl (by decide)).read (hS.get 2 rfl)) (hS.apart 0 2 rfl rfl (by decide)) Hn1.out (by omega) (by simp)
      refine owp_call rfl (by kernel_rfl) (args := #[.slice a0 l.length c0, .slice (some ⟨g1, 0, none⟩) 1 1]) rfl hcall ?_
      clear hcall
      rintro e w5 ⟨v4, x4, rfl, hrow4, hc⟩
      rw [eights_one, L1.out] at hrow4
      replace hS := hS.call1 (N := []) 0 rfl hc
      try simp only [List.cons_append, List.nil_append, List.append_nil, List.set_cons_zero, List.set_cons_succ] at hS
      clear hc
      obtain ⟨a4, c4, rfl⟩ := hrow4.isSl
      refine ⟨_, rfl, ?_⟩
      refine hK.out _ _ ⟨⟨(hS.get 1 rfl).cell 0 H0.out, (hS.get 1 rfl).cell 1 H1.out, (hS.get 1 rfl).cell 2 H2.out, (hS.get 1 rfl).cell 35 H35.out⟩, (hS.get 1 rfl).range 3 32 Hh.out⟩ (fun hHeld => ?_)
      clear hK K
      simp only [Act.put, List.setIfInBounds_toArray, List.set_cons_succ, List.set_cons_zero]
      exact wpAnyH_listed (by kernel_rfl) (st_26 _ g1 a4 c4 x4 g3 hS hrow4 hHeld)
    refine hcons rfl rfl (fun K hK => ?_) ?_
    · clear hHeld
      refine owp_bslice1 (vs := [.int .u8 c.side]) hS rfl rfl (by rfl) (by decide) ?_
      clear hS; intro g2 _ hS; try simp only [List.cons_append, List.nil_append, List.append_nil, List.set_cons_zero, List.set_cons_succ] at hS
      rw [← Hside.out] at hS
      refine hK.out _ _ ⟨⟨(hS.get 1 rfl).cell 0 H0.out, (hS.get 1 rfl).cell 1 H1.out, (hS.get 1 rfl).cell 2 H2.out, (hS.get 1 rfl).cell 35 H35.out⟩, (hS.get 1 rfl).range 3 32 Hh.out⟩ (fun hHeld => ?_)
      clear hK K
      simp only [Act.put, List.setIfInBounds_toArray, List.set_cons_succ, List.set_cons_zero]
      replace hS := hS.pick [0, 1, 2, 4, 3] rfl (by decide)
      exact wpAnyH_listed (by kernel_rfl) (st_34 _ g1 g2 g3 hS  hHeld)
    refine hcons rfl rfl (fun K hK => ?_) ?_
    · clear hHeld
      refine owp_bslice1 (vs := bs c.hash) hS rfl rfl Hhash.out (by decide) ?_
      clear hS; intro g4 _ hS; try simp only [List.cons_append, List.nil_append, List.append_nil, List.set_cons_zero, List.set_cons_succ] at hS
      refine hK.out _ _ ⟨⟨(hS.get 1 rfl).cell 0 H0.out, (hS.get 1 rfl).cell 1 H1.out, (hS.get 1 rfl).cell 2 H2.out, (hS.get 1 rfl).cell 35 H35.out⟩, (hS.get 1 rfl).range 3 32 Hh.out⟩ (fun hHeld => ?_)
      clear hK K
      simp only [Act.put, List.setIfInBounds_toArray, List.set_cons_succ, List.set_cons_zero]
      exact wpAnyH_listed (by kernel_rfl) (st_40 _ g1 g3 g4 hS  hHeld)
    refine hcons rfl rfl (fun K hK => ?_) ?_
    · clear hHeld
      refine owp_bslice1 (vs := [.int .u64 c.expiry]) hS rfl rfl (by rfl) (by decide) ?_
      clear hS; intro g5 _ hS; try simp only [List.cons_append, List.nil_append, List.append_nil, List.set_cons_zero, List.set_cons_succ] at hS
      refine hK.out _ _ ⟨⟨(hS.get 1 rfl).cell 0 H0.out, (hS.get 1 rfl).cell 1 H1.out, (hS.get 1 rfl).cell 2 H2.out, (hS.get 1 rfl).cell 35 H35.out⟩, (hS.get 1 rfl).range 3 32 Hh.out⟩ (fun hHeld => ?_)
      clear hK K
      simp only [Act.put, List.setIfInBounds_toArray, List.set_cons_succ, List.set_cons_zero]
      exact wpAnyH_listed (by kernel_rfl) (st_41 _ g1 g3 g5 hS  hHeld)
    exact AllReadyH.nil
  have st_43 : ∀ (w' : World) (g1 : Nat) (g4 : Nat) (g5 : Nat) (hS : St w (keys [x]) w' [x, some (gs, cs, 86), some (g1, [.int .u64 c.id], 27), some (g4, bs c.hash, 50), some (g5, [.int .u64 c.expiry], 27)])  (hHeld : (fun w' => (w'.cell? ⟨gs, 0, none⟩ = some (.int .u64 c.id) ∧ w'.cell? ⟨gs, 1, none⟩ = some (.int .i64 c.side) ∧ w'.cell? ⟨gs, 2, none⟩ = some (.int .u64 c.amount) ∧ w'.cell? ⟨gs, 35, none⟩ = some (.int .u64 c.expiry)) ∧ CellsAt w' ⟨gs, 3, none⟩ (bs c.hash)) w'), wpAnyH Try.prog Region.Mode.any ops61 Q (fun w' => (w'.cell? ⟨gs, 0, none⟩ = some (.int .u64 c.id) ∧ w'.cell? ⟨gs, 1, none⟩ = some (.int .i64 c.side) ∧ w'.cell? ⟨gs, 2, none⟩ = some (.int .u64 c.amount) ∧ w'.cell? ⟨gs, 35, none⟩ = some (.int .u64 c.expiry)) ∧ CellsAt w' ⟨gs, 3, none⟩ (bs c.hash)) 8 #[true, true, true, true, false, true, true, true, false, false, true, true, false, false, true, true, true, false, true, true, true, false, false] ⟨#[.slice a0 l.length c0, .agg cs.toArray, undef, .pointer (some ⟨gs, 0, none⟩), .slice none 0 0, (.slice a0 l.length c0), (.pointer (some ⟨gs, 0, none⟩)), (.int .u64 c.id), .slice (some ⟨g1, 0, none⟩) 1 1, undef, (.pointer (some ⟨gs, 1, none⟩)), (.int .i64 c.side), (.int .u8 c.side), undef, undef, (.pointer (some ⟨gs, 2, none⟩)), (.int .u64 c.amount), undef, undef, (.pointer (some ⟨gs, 3, none⟩)), (.agg (bs c.hash).toArray), .slice (some ⟨g4, 0, none⟩) 1 1, undef, (.pointer (some ⟨gs, 35, none⟩)), (.int .u64 c.expiry), .slice (some ⟨g5, 0, none⟩) 1 1, undef], []⟩ w' := by
    intro w' g1 g4 g5 hS  hHeld
    refine wpAnyH_ready (rs := [4, 8, 12]) (by kernel_rfl) (by simp) ?_
    refine hcons rfl rfl (fun K hK => ?_) ?_
    · clear hHeld
      have hcall := oeight_ok x (.slice a0 l.length c0) l (.slice (some ⟨g1, 0, none⟩) 1 1) [c.id] _ (hS.get 0 rfl) Hv.out ((RowV.lit 27 1 g1 1 [.int .u64 c.id] rfl (by decide)).read (hS.get 2 rfl)) (hS.apart 0 2 rfl rfl (by decide)) Hn1.out (by omega) (by simp)
      refine owp_call rfl (by kernel_rfl) (args := #[.slice a0 l.length c0, .slice (some ⟨g1, 0, none⟩) 1 1]) rfl hcall ?_
      clear hcall
      rintro e w5 ⟨v4, x4, rfl, hrow4, hc⟩
      rw [eights_one, L1.out] at hrow4
      replace hS := hS.call1 (N := []) 0 rfl hc
      try simp only [List.cons_append, List.nil_append, List.append_nil, List.set_cons_zero, List.set_cons_succ] at hS
      clear hc
      obtain ⟨a4, c4, rfl⟩ := hrow4.isSl
      refine ⟨_, rfl, ?_⟩
      refine hK.out _ _ ⟨⟨(hS.get 1 rfl).cell 0 H0.out, (hS.get 1 rfl).cell 1 H1.out, (hS.get 1 rfl).cell 2 H2.out, (hS.get 1 rfl).cell 35 H35.out⟩, (hS.get 1 rfl).range 3 32 Hh.out⟩ (fun hHeld => ?_)
      clear hK K
      simp only [Act.put, List.setIfInBounds_toArray, List.set_cons_succ, List.set_cons_zero]
      exact wpAnyH_listed (by kernel_rfl) (st_27 _ g1 a4 c4 x4 g4 g5 hS hrow4 hHeld)
    refine hcons rfl rfl (fun K hK => ?_) ?_
    · clear hHeld
      refine owp_bslice1 (vs := [.int .u8 c.side]) hS rfl rfl (by rfl) (by decide) ?_
      clear hS; intro g2 _ hS; try simp only [List.cons_append, List.nil_append, List.append_nil, List.set_cons_zero, List.set_cons_succ] at hS
      rw [← Hside.out] at hS
      refine hK.out _ _ ⟨⟨(hS.get 1 rfl).cell 0 H0.out, (hS.get 1 rfl).cell 1 H1.out, (hS.get 1 rfl).cell 2 H2.out, (hS.get 1 rfl).cell 35 H35.out⟩, (hS.get 1 rfl).range 3 32 Hh.out⟩ (fun hHeld => ?_)
      clear hK K
      simp only [Act.put, List.setIfInBounds_toArray, List.set_cons_succ, List.set_cons_zero]
      replace hS := hS.pick [0, 1, 2, 5, 3, 4] rfl (by decide)
      exact wpAnyH_listed (by kernel_rfl) (st_35 _ g1 g2 g4 g5 hS  hHeld)
    refine hcons rfl rfl (fun K hK => ?_) ?_
    · clear hHeld
      refine owp_bslice1 (vs := [.int .u64 c.amount]) hS rfl rfl (by rfl) (by decide) ?_
      clear hS; intro g3 _ hS; try simp only [List.cons_append, List.nil_append, List.append_nil, List.set_cons_zero, List.set_cons_succ] at hS
      refine hK.out _ _ ⟨⟨(hS.get 1 rfl).cell 0 H0.out, (hS.get 1 rfl).cell 1 H1.out, (hS.get 1 rfl).cell 2 H2.out, (hS.get 1 rfl).cell 35 H35.out⟩, (hS.get 1 rfl).range 3 32 Hh.out⟩ (fun hHeld => ?_)
      clear hK K
      simp only [Act.put, List.setIfInBounds_toArray, List.set_cons_succ, List.set_cons_zero]
      replace hS := hS.pick [0, 1, 2, 5, 3, 4] rfl (by decide)
      exact wpAnyH_listed (by kernel_rfl) (st_39 _ g1 g3 g4 g5 hS  hHeld)
    exact AllReadyH.nil
  have st_44 : ∀ (w' : World) (g1 : Nat) (g4 : Nat) (hS : St w (keys [x]) w' [x, some (gs, cs, 86), some (g1, [.int .u64 c.id], 27), some (g4, bs c.hash, 50)])  (hHeld : (fun w' => (w'.cell? ⟨gs, 0, none⟩ = some (.int .u64 c.id) ∧ w'.cell? ⟨gs, 1, none⟩ = some (.int .i64 c.side) ∧ w'.cell? ⟨gs, 2, none⟩ = some (.int .u64 c.amount) ∧ w'.cell? ⟨gs, 35, none⟩ = some (.int .u64 c.expiry)) ∧ CellsAt w' ⟨gs, 3, none⟩ (bs c.hash)) w'), wpAnyH Try.prog Region.Mode.any ops61 Q (fun w' => (w'.cell? ⟨gs, 0, none⟩ = some (.int .u64 c.id) ∧ w'.cell? ⟨gs, 1, none⟩ = some (.int .i64 c.side) ∧ w'.cell? ⟨gs, 2, none⟩ = some (.int .u64 c.amount) ∧ w'.cell? ⟨gs, 35, none⟩ = some (.int .u64 c.expiry)) ∧ CellsAt w' ⟨gs, 3, none⟩ (bs c.hash)) 9 #[true, true, true, true, false, true, true, true, false, false, true, true, false, false, true, true, true, false, true, true, false, false, false] ⟨#[.slice a0 l.length c0, .agg cs.toArray, undef, .pointer (some ⟨gs, 0, none⟩), .slice none 0 0, (.slice a0 l.length c0), (.pointer (some ⟨gs, 0, none⟩)), (.int .u64 c.id), .slice (some ⟨g1, 0, none⟩) 1 1, undef, (.pointer (some ⟨gs, 1, none⟩)), (.int .i64 c.side), (.int .u8 c.side), undef, undef, (.pointer (some ⟨gs, 2, none⟩)), (.int .u64 c.amount), undef, undef, (.pointer (some ⟨gs, 3, none⟩)), (.agg (bs c.hash).toArray), .slice (some ⟨g4, 0, none⟩) 1 1, undef, (.pointer (some ⟨gs, 35, none⟩)), (.int .u64 c.expiry), undef, undef], []⟩ w' := by
    intro w' g1 g4 hS  hHeld
    refine wpAnyH_ready (rs := [4, 8, 12, 20]) (by kernel_rfl) (by simp) ?_
    refine hcons rfl rfl (fun K hK => ?_) ?_
    · clear hHeld
      have hcall := oeight_ok x (.slice a0 l.length c0) l (.slice (some ⟨g1, 0, none⟩) 1 1) [c.id] _ (hS.get 0 rfl) Hv.out ((RowV.lit 27 1 g1 1 [.int .u64 c.id] rfl (by decide)).read (hS.get 2 rfl)) (hS.apart 0 2 rfl rfl (by decide)) Hn1.out (by omega) (by simp)
      refine owp_call rfl (by kernel_rfl) (args := #[.slice a0 l.length c0, .slice (some ⟨g1, 0, none⟩) 1 1]) rfl hcall ?_
      clear hcall
      rintro e w5 ⟨v4, x4, rfl, hrow4, hc⟩
      rw [eights_one, L1.out] at hrow4
      replace hS := hS.call1 (N := []) 0 rfl hc
      try simp only [List.cons_append, List.nil_append, List.append_nil, List.set_cons_zero, List.set_cons_succ] at hS
      clear hc
      obtain ⟨a4, c4, rfl⟩ := hrow4.isSl
      refine ⟨_, rfl, ?_⟩
      refine hK.out _ _ ⟨⟨(hS.get 1 rfl).cell 0 H0.out, (hS.get 1 rfl).cell 1 H1.out, (hS.get 1 rfl).cell 2 H2.out, (hS.get 1 rfl).cell 35 H35.out⟩, (hS.get 1 rfl).range 3 32 Hh.out⟩ (fun hHeld => ?_)
      clear hK K
      simp only [Act.put, List.setIfInBounds_toArray, List.set_cons_succ, List.set_cons_zero]
      exact wpAnyH_listed (by kernel_rfl) (st_28 _ g1 a4 c4 x4 g4 hS hrow4 hHeld)
    refine hcons rfl rfl (fun K hK => ?_) ?_
    · clear hHeld
      refine owp_bslice1 (vs := [.int .u8 c.side]) hS rfl rfl (by rfl) (by decide) ?_
      clear hS; intro g2 _ hS; try simp only [List.cons_append, List.nil_append, List.append_nil, List.set_cons_zero, List.set_cons_succ] at hS
      rw [← Hside.out] at hS
      refine hK.out _ _ ⟨⟨(hS.get 1 rfl).cell 0 H0.out, (hS.get 1 rfl).cell 1 H1.out, (hS.get 1 rfl).cell 2 H2.out, (hS.get 1 rfl).cell 35 H35.out⟩, (hS.get 1 rfl).range 3 32 Hh.out⟩ (fun hHeld => ?_)
      clear hK K
      simp only [Act.put, List.setIfInBounds_toArray, List.set_cons_succ, List.set_cons_zero]
      replace hS := hS.pick [0, 1, 2, 4, 3] rfl (by decide)
      exact wpAnyH_listed (by kernel_rfl) (st_36 _ g1 g2 g4 hS  hHeld)
    refine hcons rfl rfl (fun K hK => ?_) ?_
    · clear hHeld
      refine owp_bslice1 (vs := [.int .u64 c.amount]) hS rfl rfl (by rfl) (by decide) ?_
      clear hS; intro g3 _ hS; try simp only [List.cons_append, List.nil_append, List.append_nil, List.set_cons_zero, List.set_cons_succ] at hS
      refine hK.out _ _ ⟨⟨(hS.get 1 rfl).cell 0 H0.out, (hS.get 1 rfl).cell 1 H1.out, (hS.get 1 rfl).cell 2 H2.out, (hS.get 1 rfl).cell 35 H35.out⟩, (hS.get 1 rfl).range 3 32 Hh.out⟩ (fun hHeld => ?_)
      clear hK K
      simp only [Act.put, List.setIfInBounds_toArray, List.set_cons_succ, List.set_cons_zero]
      replace hS := hS.pick [0, 1, 2, 4, 3] rfl (by decide)
      exact wpAnyH_listed (by kernel_rfl) (st_40 _ g1 g3 g4 hS  hHeld)
    refine hcons rfl rfl (fun K hK => ?_) ?_
    · clear hHeld
      refine owp_bslice1 (vs := [.int .u64 c.expiry]) hS rfl rfl (by rfl) (by decide) ?_
      clear hS; intro g5 _ hS; try simp only [List.cons_append, List.nil_append, List.append_nil, List.set_cons_zero, List.set_cons_succ] at hS
      refine hK.out _ _ ⟨⟨(hS.get 1 rfl).cell 0 H0.out, (hS.get 1 rfl).cell 1 H1.out, (hS.get 1 rfl).cell 2 H2.out, (hS.get 1 rfl).cell 35 H35.out⟩, (hS.get 1 rfl).range 3 32 Hh.out⟩ (fun hHeld => ?_)
      clear hK K
      simp only [Act.put, List.setIfInBounds_toArray, List.set_cons_succ, List.set_cons_zero]
      exact wpAnyH_listed (by kernel_rfl) (st_43 _ g1 g4 g5 hS  hHeld)
    exact AllReadyH.nil
  have st_45 : ∀ (w' : World) (g1 : Nat) (g5 : Nat) (hS : St w (keys [x]) w' [x, some (gs, cs, 86), some (g1, [.int .u64 c.id], 27), some (g5, [.int .u64 c.expiry], 27)])  (hHeld : (fun w' => (w'.cell? ⟨gs, 0, none⟩ = some (.int .u64 c.id) ∧ w'.cell? ⟨gs, 1, none⟩ = some (.int .i64 c.side) ∧ w'.cell? ⟨gs, 2, none⟩ = some (.int .u64 c.amount) ∧ w'.cell? ⟨gs, 35, none⟩ = some (.int .u64 c.expiry)) ∧ CellsAt w' ⟨gs, 3, none⟩ (bs c.hash)) w'), wpAnyH Try.prog Region.Mode.any ops61 Q (fun w' => (w'.cell? ⟨gs, 0, none⟩ = some (.int .u64 c.id) ∧ w'.cell? ⟨gs, 1, none⟩ = some (.int .i64 c.side) ∧ w'.cell? ⟨gs, 2, none⟩ = some (.int .u64 c.amount) ∧ w'.cell? ⟨gs, 35, none⟩ = some (.int .u64 c.expiry)) ∧ CellsAt w' ⟨gs, 3, none⟩ (bs c.hash)) 9 #[true, true, true, true, false, true, true, true, false, false, true, true, false, false, true, true, false, false, true, true, true, false, false] ⟨#[.slice a0 l.length c0, .agg cs.toArray, undef, .pointer (some ⟨gs, 0, none⟩), .slice none 0 0, (.slice a0 l.length c0), (.pointer (some ⟨gs, 0, none⟩)), (.int .u64 c.id), .slice (some ⟨g1, 0, none⟩) 1 1, undef, (.pointer (some ⟨gs, 1, none⟩)), (.int .i64 c.side), (.int .u8 c.side), undef, undef, (.pointer (some ⟨gs, 2, none⟩)), (.int .u64 c.amount), undef, undef, (.pointer (some ⟨gs, 3, none⟩)), (.agg (bs c.hash).toArray), undef, undef, (.pointer (some ⟨gs, 35, none⟩)), (.int .u64 c.expiry), .slice (some ⟨g5, 0, none⟩) 1 1, undef], []⟩ w' := by
    intro w' g1 g5 hS  hHeld
    refine wpAnyH_ready (rs := [4, 8, 12, 16]) (by kernel_rfl) (by simp) ?_
    refine hcons rfl rfl (fun K hK => ?_) ?_
    · clear hHeld
      have hcall := oeight_ok x (.slice a0 l.length c0) l (.slice (some ⟨g1, 0, none⟩) 1 1) [c.id] _ (hS.get 0 rfl) Hv.out ((RowV.lit 27 1 g1 1 [.int .u64 c.id] rfl (by decide)).read (hS.get 2 rfl)) (hS.apart 0 2 rfl rfl (by decide)) Hn1.out (by omega) (by simp)
      refine owp_call rfl (by kernel_rfl) (args := #[.slice a0 l.length c0, .slice (some ⟨g1, 0, none⟩) 1 1]) rfl hcall ?_
      clear hcall
      rintro e w5 ⟨v4, x4, rfl, hrow4, hc⟩
      rw [eights_one, L1.out] at hrow4
      replace hS := hS.call1 (N := []) 0 rfl hc
      try simp only [List.cons_append, List.nil_append, List.append_nil, List.set_cons_zero, List.set_cons_succ] at hS
      clear hc
      obtain ⟨a4, c4, rfl⟩ := hrow4.isSl
      refine ⟨_, rfl, ?_⟩
      refine hK.out _ _ ⟨⟨(hS.get 1 rfl).cell 0 H0.out, (hS.get 1 rfl).cell 1 H1.out, (hS.get 1 rfl).cell 2 H2.out, (hS.get 1 rfl).cell 35 H35.out⟩, (hS.get 1 rfl).range 3 32 Hh.out⟩ (fun hHeld => ?_)
      clear hK K
      simp only [Act.put, List.setIfInBounds_toArray, List.set_cons_succ, List.set_cons_zero]
      exact wpAnyH_listed (by kernel_rfl) (st_29 _ g1 a4 c4 x4 g5 hS hrow4 hHeld)
    refine hcons rfl rfl (fun K hK => ?_) ?_
    · clear hHeld
      refine owp_bslice1 (vs := [.int .u8 c.side]) hS rfl rfl (by rfl) (by decide) ?_
      clear hS; intro g2 _ hS; try simp only [List.cons_append, List.nil_append, List.append_nil, List.set_cons_zero, List.set_cons_succ] at hS
      rw [← Hside.out] at hS
      refine hK.out _ _ ⟨⟨(hS.get 1 rfl).cell 0 H0.out, (hS.get 1 rfl).cell 1 H1.out, (hS.get 1 rfl).cell 2 H2.out, (hS.get 1 rfl).cell 35 H35.out⟩, (hS.get 1 rfl).range 3 32 Hh.out⟩ (fun hHeld => ?_)
      clear hK K
      simp only [Act.put, List.setIfInBounds_toArray, List.set_cons_succ, List.set_cons_zero]
      replace hS := hS.pick [0, 1, 2, 4, 3] rfl (by decide)
      exact wpAnyH_listed (by kernel_rfl) (st_37 _ g1 g2 g5 hS  hHeld)
    refine hcons rfl rfl (fun K hK => ?_) ?_
    · clear hHeld
      refine owp_bslice1 (vs := [.int .u64 c.amount]) hS rfl rfl (by rfl) (by decide) ?_
      clear hS; intro g3 _ hS; try simp only [List.cons_append, List.nil_append, List.append_nil, List.set_cons_zero, List.set_cons_succ] at hS
      refine hK.out _ _ ⟨⟨(hS.get 1 rfl).cell 0 H0.out, (hS.get 1 rfl).cell 1 H1.out, (hS.get 1 rfl).cell 2 H2.out, (hS.get 1 rfl).cell 35 H35.out⟩, (hS.get 1 rfl).range 3 32 Hh.out⟩ (fun hHeld => ?_)
      clear hK K
      simp only [Act.put, List.setIfInBounds_toArray, List.set_cons_succ, List.set_cons_zero]
      replace hS := hS.pick [0, 1, 2, 4, 3] rfl (by decide)
      exact wpAnyH_listed (by kernel_rfl) (st_41 _ g1 g3 g5 hS  hHeld)
    refine hcons rfl rfl (fun K hK => ?_) ?_
    · clear hHeld
      refine owp_bslice1 (vs := bs c.hash) hS rfl rfl Hhash.out (by decide) ?_
      clear hS; intro g4 _ hS; try simp only [List.cons_append, List.nil_append, List.append_nil, List.set_cons_zero, List.set_cons_succ] at hS
      refine hK.out _ _ ⟨⟨(hS.get 1 rfl).cell 0 H0.out, (hS.get 1 rfl).cell 1 H1.out, (hS.get 1 rfl).cell 2 H2.out, (hS.get 1 rfl).cell 35 H35.out⟩, (hS.get 1 rfl).range 3 32 Hh.out⟩ (fun hHeld => ?_)
      clear hK K
      simp only [Act.put, List.setIfInBounds_toArray, List.set_cons_succ, List.set_cons_zero]
      replace hS := hS.pick [0, 1, 2, 4, 3] rfl (by decide)
      exact wpAnyH_listed (by kernel_rfl) (st_43 _ g1 g4 g5 hS  hHeld)
    exact AllReadyH.nil
  have st_46 : ∀ (w' : World) (g1 : Nat) (hS : St w (keys [x]) w' [x, some (gs, cs, 86), some (g1, [.int .u64 c.id], 27)])  (hHeld : (fun w' => (w'.cell? ⟨gs, 0, none⟩ = some (.int .u64 c.id) ∧ w'.cell? ⟨gs, 1, none⟩ = some (.int .i64 c.side) ∧ w'.cell? ⟨gs, 2, none⟩ = some (.int .u64 c.amount) ∧ w'.cell? ⟨gs, 35, none⟩ = some (.int .u64 c.expiry)) ∧ CellsAt w' ⟨gs, 3, none⟩ (bs c.hash)) w'), wpAnyH Try.prog Region.Mode.any ops61 Q (fun w' => (w'.cell? ⟨gs, 0, none⟩ = some (.int .u64 c.id) ∧ w'.cell? ⟨gs, 1, none⟩ = some (.int .i64 c.side) ∧ w'.cell? ⟨gs, 2, none⟩ = some (.int .u64 c.amount) ∧ w'.cell? ⟨gs, 35, none⟩ = some (.int .u64 c.expiry)) ∧ CellsAt w' ⟨gs, 3, none⟩ (bs c.hash)) 10 #[true, true, true, true, false, true, true, true, false, false, true, true, false, false, true, true, false, false, true, true, false, false, false] ⟨#[.slice a0 l.length c0, .agg cs.toArray, undef, .pointer (some ⟨gs, 0, none⟩), .slice none 0 0, (.slice a0 l.length c0), (.pointer (some ⟨gs, 0, none⟩)), (.int .u64 c.id), .slice (some ⟨g1, 0, none⟩) 1 1, undef, (.pointer (some ⟨gs, 1, none⟩)), (.int .i64 c.side), (.int .u8 c.side), undef, undef, (.pointer (some ⟨gs, 2, none⟩)), (.int .u64 c.amount), undef, undef, (.pointer (some ⟨gs, 3, none⟩)), (.agg (bs c.hash).toArray), undef, undef, (.pointer (some ⟨gs, 35, none⟩)), (.int .u64 c.expiry), undef, undef], []⟩ w' := by
    intro w' g1 hS  hHeld
    refine wpAnyH_ready (rs := [4, 8, 12, 16, 20]) (by kernel_rfl) (by simp) ?_
    refine hcons rfl rfl (fun K hK => ?_) ?_
    · clear hHeld
      have hcall := oeight_ok x (.slice a0 l.length c0) l (.slice (some ⟨g1, 0, none⟩) 1 1) [c.id] _ (hS.get 0 rfl) Hv.out ((RowV.lit 27 1 g1 1 [.int .u64 c.id] rfl (by decide)).read (hS.get 2 rfl)) (hS.apart 0 2 rfl rfl (by decide)) Hn1.out (by omega) (by simp)
      refine owp_call rfl (by kernel_rfl) (args := #[.slice a0 l.length c0, .slice (some ⟨g1, 0, none⟩) 1 1]) rfl hcall ?_
      clear hcall
      rintro e w5 ⟨v4, x4, rfl, hrow4, hc⟩
      rw [eights_one, L1.out] at hrow4
      replace hS := hS.call1 (N := []) 0 rfl hc
      try simp only [List.cons_append, List.nil_append, List.append_nil, List.set_cons_zero, List.set_cons_succ] at hS
      clear hc
      obtain ⟨a4, c4, rfl⟩ := hrow4.isSl
      refine ⟨_, rfl, ?_⟩
      refine hK.out _ _ ⟨⟨(hS.get 1 rfl).cell 0 H0.out, (hS.get 1 rfl).cell 1 H1.out, (hS.get 1 rfl).cell 2 H2.out, (hS.get 1 rfl).cell 35 H35.out⟩, (hS.get 1 rfl).range 3 32 Hh.out⟩ (fun hHeld => ?_)
      clear hK K
      simp only [Act.put, List.setIfInBounds_toArray, List.set_cons_succ, List.set_cons_zero]
      exact wpAnyH_listed (by kernel_rfl) (st_30 _ g1 a4 c4 x4 hS hrow4 hHeld)
    refine hcons rfl rfl (fun K hK => ?_) ?_
    · clear hHeld
      refine owp_bslice1 (vs := [.int .u8 c.side]) hS rfl rfl (by rfl) (by decide) ?_
      clear hS; intro g2 _ hS; try simp only [List.cons_append, List.nil_append, List.append_nil, List.set_cons_zero, List.set_cons_succ] at hS
      rw [← Hside.out] at hS
      refine hK.out _ _ ⟨⟨(hS.get 1 rfl).cell 0 H0.out, (hS.get 1 rfl).cell 1 H1.out, (hS.get 1 rfl).cell 2 H2.out, (hS.get 1 rfl).cell 35 H35.out⟩, (hS.get 1 rfl).range 3 32 Hh.out⟩ (fun hHeld => ?_)
      clear hK K
      simp only [Act.put, List.setIfInBounds_toArray, List.set_cons_succ, List.set_cons_zero]
      exact wpAnyH_listed (by kernel_rfl) (st_38 _ g1 g2 hS  hHeld)
    refine hcons rfl rfl (fun K hK => ?_) ?_
    · clear hHeld
      refine owp_bslice1 (vs := [.int .u64 c.amount]) hS rfl rfl (by rfl) (by decide) ?_
      clear hS; intro g3 _ hS; try simp only [List.cons_append, List.nil_append, List.append_nil, List.set_cons_zero, List.set_cons_succ] at hS
      refine hK.out _ _ ⟨⟨(hS.get 1 rfl).cell 0 H0.out, (hS.get 1 rfl).cell 1 H1.out, (hS.get 1 rfl).cell 2 H2.out, (hS.get 1 rfl).cell 35 H35.out⟩, (hS.get 1 rfl).range 3 32 Hh.out⟩ (fun hHeld => ?_)
      clear hK K
      simp only [Act.put, List.setIfInBounds_toArray, List.set_cons_succ, List.set_cons_zero]
      exact wpAnyH_listed (by kernel_rfl) (st_42 _ g1 g3 hS  hHeld)
    refine hcons rfl rfl (fun K hK => ?_) ?_
    · clear hHeld
      refine owp_bslice1 (vs := bs c.hash) hS rfl rfl Hhash.out (by decide) ?_
      clear hS; intro g4 _ hS; try simp only [List.cons_append, List.nil_append, List.append_nil, List.set_cons_zero, List.set_cons_succ] at hS
      refine hK.out _ _ ⟨⟨(hS.get 1 rfl).cell 0 H0.out, (hS.get 1 rfl).cell 1 H1.out, (hS.get 1 rfl).cell 2 H2.out, (hS.get 1 rfl).cell 35 H35.out⟩, (hS.get 1 rfl).range 3 32 Hh.out⟩ (fun hHeld => ?_)
      clear hK K
      simp only [Act.put, List.setIfInBounds_toArray, List.set_cons_succ, List.set_cons_zero]
      exact wpAnyH_listed (by kernel_rfl) (st_44 _ g1 g4 hS  hHeld)
    refine hcons rfl rfl (fun K hK => ?_) ?_
    · clear hHeld
      refine owp_bslice1 (vs := [.int .u64 c.expiry]) hS rfl rfl (by rfl) (by decide) ?_
      clear hS; intro g5 _ hS; try simp only [List.cons_append, List.nil_append, List.append_nil, List.set_cons_zero, List.set_cons_succ] at hS
      refine hK.out _ _ ⟨⟨(hS.get 1 rfl).cell 0 H0.out, (hS.get 1 rfl).cell 1 H1.out, (hS.get 1 rfl).cell 2 H2.out, (hS.get 1 rfl).cell 35 H35.out⟩, (hS.get 1 rfl).range 3 32 Hh.out⟩ (fun hHeld => ?_)
      clear hK K
      simp only [Act.put, List.setIfInBounds_toArray, List.set_cons_succ, List.set_cons_zero]
      exact wpAnyH_listed (by kernel_rfl) (st_45 _ g1 g5 hS  hHeld)
    exact AllReadyH.nil
  have st_47 : ∀ (w' : World) (g2 : Nat) (g3 : Nat) (g4 : Nat) (g5 : Nat) (hS : St w (keys [x]) w' [x, some (gs, cs, 86), some (g2, bs [UInt8.ofNat c.side.toNat], 5), some (g3, [.int .u64 c.amount], 27), some (g4, bs c.hash, 50), some (g5, [.int .u64 c.expiry], 27)])  (hHeld : (fun w' => (w'.cell? ⟨gs, 0, none⟩ = some (.int .u64 c.id) ∧ w'.cell? ⟨gs, 1, none⟩ = some (.int .i64 c.side) ∧ w'.cell? ⟨gs, 2, none⟩ = some (.int .u64 c.amount) ∧ w'.cell? ⟨gs, 35, none⟩ = some (.int .u64 c.expiry)) ∧ CellsAt w' ⟨gs, 3, none⟩ (bs c.hash)) w'), wpAnyH Try.prog Region.Mode.any ops61 Q (fun w' => (w'.cell? ⟨gs, 0, none⟩ = some (.int .u64 c.id) ∧ w'.cell? ⟨gs, 1, none⟩ = some (.int .i64 c.side) ∧ w'.cell? ⟨gs, 2, none⟩ = some (.int .u64 c.amount) ∧ w'.cell? ⟨gs, 35, none⟩ = some (.int .u64 c.expiry)) ∧ CellsAt w' ⟨gs, 3, none⟩ (bs c.hash)) 7 #[true, true, true, false, false, true, true, true, true, false, true, true, true, false, true, true, true, false, true, true, true, false, false] ⟨#[.slice a0 l.length c0, .agg cs.toArray, undef, .pointer (some ⟨gs, 0, none⟩), .slice none 0 0, (.slice a0 l.length c0), (.pointer (some ⟨gs, 0, none⟩)), (.int .u64 c.id), undef, undef, (.pointer (some ⟨gs, 1, none⟩)), (.int .i64 c.side), (.int .u8 c.side), .slice (some ⟨g2, 0, none⟩) 1 1, undef, (.pointer (some ⟨gs, 2, none⟩)), (.int .u64 c.amount), .slice (some ⟨g3, 0, none⟩) 1 1, undef, (.pointer (some ⟨gs, 3, none⟩)), (.agg (bs c.hash).toArray), .slice (some ⟨g4, 0, none⟩) 1 1, undef, (.pointer (some ⟨gs, 35, none⟩)), (.int .u64 c.expiry), .slice (some ⟨g5, 0, none⟩) 1 1, undef], []⟩ w' := by
    intro w' g2 g3 g4 g5 hS  hHeld
    refine wpAnyH_ready (rs := [3]) (by kernel_rfl) (by simp) ?_
    refine hcons rfl rfl (fun K hK => ?_) ?_
    · clear hHeld
      refine owp_bslice1 (vs := [.int .u64 c.id]) hS rfl rfl (by rfl) (by decide) ?_
      clear hS; intro g1 _ hS; try simp only [List.cons_append, List.nil_append, List.append_nil, List.set_cons_zero, List.set_cons_succ] at hS
      refine hK.out _ _ ⟨⟨(hS.get 1 rfl).cell 0 H0.out, (hS.get 1 rfl).cell 1 H1.out, (hS.get 1 rfl).cell 2 H2.out, (hS.get 1 rfl).cell 35 H35.out⟩, (hS.get 1 rfl).range 3 32 Hh.out⟩ (fun hHeld => ?_)
      clear hK K
      simp only [Act.put, List.setIfInBounds_toArray, List.set_cons_succ, List.set_cons_zero]
      replace hS := hS.pick [0, 1, 6, 2, 3, 4, 5] rfl (by decide)
      exact wpAnyH_listed (by kernel_rfl) (st_31 _ g1 g2 g3 g4 g5 hS  hHeld)
    exact AllReadyH.nil
  have st_48 : ∀ (w' : World) (g2 : Nat) (g3 : Nat) (g4 : Nat) (hS : St w (keys [x]) w' [x, some (gs, cs, 86), some (g2, bs [UInt8.ofNat c.side.toNat], 5), some (g3, [.int .u64 c.amount], 27), some (g4, bs c.hash, 50)])  (hHeld : (fun w' => (w'.cell? ⟨gs, 0, none⟩ = some (.int .u64 c.id) ∧ w'.cell? ⟨gs, 1, none⟩ = some (.int .i64 c.side) ∧ w'.cell? ⟨gs, 2, none⟩ = some (.int .u64 c.amount) ∧ w'.cell? ⟨gs, 35, none⟩ = some (.int .u64 c.expiry)) ∧ CellsAt w' ⟨gs, 3, none⟩ (bs c.hash)) w'), wpAnyH Try.prog Region.Mode.any ops61 Q (fun w' => (w'.cell? ⟨gs, 0, none⟩ = some (.int .u64 c.id) ∧ w'.cell? ⟨gs, 1, none⟩ = some (.int .i64 c.side) ∧ w'.cell? ⟨gs, 2, none⟩ = some (.int .u64 c.amount) ∧ w'.cell? ⟨gs, 35, none⟩ = some (.int .u64 c.expiry)) ∧ CellsAt w' ⟨gs, 3, none⟩ (bs c.hash)) 8 #[true, true, true, false, false, true, true, true, true, false, true, true, true, false, true, true, true, false, true, true, false, false, false] ⟨#[.slice a0 l.length c0, .agg cs.toArray, undef, .pointer (some ⟨gs, 0, none⟩), .slice none 0 0, (.slice a0 l.length c0), (.pointer (some ⟨gs, 0, none⟩)), (.int .u64 c.id), undef, undef, (.pointer (some ⟨gs, 1, none⟩)), (.int .i64 c.side), (.int .u8 c.side), .slice (some ⟨g2, 0, none⟩) 1 1, undef, (.pointer (some ⟨gs, 2, none⟩)), (.int .u64 c.amount), .slice (some ⟨g3, 0, none⟩) 1 1, undef, (.pointer (some ⟨gs, 3, none⟩)), (.agg (bs c.hash).toArray), .slice (some ⟨g4, 0, none⟩) 1 1, undef, (.pointer (some ⟨gs, 35, none⟩)), (.int .u64 c.expiry), undef, undef], []⟩ w' := by
    intro w' g2 g3 g4 hS  hHeld
    refine wpAnyH_ready (rs := [3, 20]) (by kernel_rfl) (by simp) ?_
    refine hcons rfl rfl (fun K hK => ?_) ?_
    · clear hHeld
      refine owp_bslice1 (vs := [.int .u64 c.id]) hS rfl rfl (by rfl) (by decide) ?_
      clear hS; intro g1 _ hS; try simp only [List.cons_append, List.nil_append, List.append_nil, List.set_cons_zero, List.set_cons_succ] at hS
      refine hK.out _ _ ⟨⟨(hS.get 1 rfl).cell 0 H0.out, (hS.get 1 rfl).cell 1 H1.out, (hS.get 1 rfl).cell 2 H2.out, (hS.get 1 rfl).cell 35 H35.out⟩, (hS.get 1 rfl).range 3 32 Hh.out⟩ (fun hHeld => ?_)
      clear hK K
      simp only [Act.put, List.setIfInBounds_toArray, List.set_cons_succ, List.set_cons_zero]
      replace hS := hS.pick [0, 1, 5, 2, 3, 4] rfl (by decide)
      exact wpAnyH_listed (by kernel_rfl) (st_32 _ g1 g2 g3 g4 hS  hHeld)
    refine hcons rfl rfl (fun K hK => ?_) ?_
    · clear hHeld
      refine owp_bslice1 (vs := [.int .u64 c.expiry]) hS rfl rfl (by rfl) (by decide) ?_
      clear hS; intro g5 _ hS; try simp only [List.cons_append, List.nil_append, List.append_nil, List.set_cons_zero, List.set_cons_succ] at hS
      refine hK.out _ _ ⟨⟨(hS.get 1 rfl).cell 0 H0.out, (hS.get 1 rfl).cell 1 H1.out, (hS.get 1 rfl).cell 2 H2.out, (hS.get 1 rfl).cell 35 H35.out⟩, (hS.get 1 rfl).range 3 32 Hh.out⟩ (fun hHeld => ?_)
      clear hK K
      simp only [Act.put, List.setIfInBounds_toArray, List.set_cons_succ, List.set_cons_zero]
      exact wpAnyH_listed (by kernel_rfl) (st_47 _ g2 g3 g4 g5 hS  hHeld)
    exact AllReadyH.nil
  have st_49 : ∀ (w' : World) (g2 : Nat) (g3 : Nat) (g5 : Nat) (hS : St w (keys [x]) w' [x, some (gs, cs, 86), some (g2, bs [UInt8.ofNat c.side.toNat], 5), some (g3, [.int .u64 c.amount], 27), some (g5, [.int .u64 c.expiry], 27)])  (hHeld : (fun w' => (w'.cell? ⟨gs, 0, none⟩ = some (.int .u64 c.id) ∧ w'.cell? ⟨gs, 1, none⟩ = some (.int .i64 c.side) ∧ w'.cell? ⟨gs, 2, none⟩ = some (.int .u64 c.amount) ∧ w'.cell? ⟨gs, 35, none⟩ = some (.int .u64 c.expiry)) ∧ CellsAt w' ⟨gs, 3, none⟩ (bs c.hash)) w'), wpAnyH Try.prog Region.Mode.any ops61 Q (fun w' => (w'.cell? ⟨gs, 0, none⟩ = some (.int .u64 c.id) ∧ w'.cell? ⟨gs, 1, none⟩ = some (.int .i64 c.side) ∧ w'.cell? ⟨gs, 2, none⟩ = some (.int .u64 c.amount) ∧ w'.cell? ⟨gs, 35, none⟩ = some (.int .u64 c.expiry)) ∧ CellsAt w' ⟨gs, 3, none⟩ (bs c.hash)) 8 #[true, true, true, false, false, true, true, true, true, false, true, true, true, false, true, true, false, false, true, true, true, false, false] ⟨#[.slice a0 l.length c0, .agg cs.toArray, undef, .pointer (some ⟨gs, 0, none⟩), .slice none 0 0, (.slice a0 l.length c0), (.pointer (some ⟨gs, 0, none⟩)), (.int .u64 c.id), undef, undef, (.pointer (some ⟨gs, 1, none⟩)), (.int .i64 c.side), (.int .u8 c.side), .slice (some ⟨g2, 0, none⟩) 1 1, undef, (.pointer (some ⟨gs, 2, none⟩)), (.int .u64 c.amount), .slice (some ⟨g3, 0, none⟩) 1 1, undef, (.pointer (some ⟨gs, 3, none⟩)), (.agg (bs c.hash).toArray), undef, undef, (.pointer (some ⟨gs, 35, none⟩)), (.int .u64 c.expiry), .slice (some ⟨g5, 0, none⟩) 1 1, undef], []⟩ w' := by
    intro w' g2 g3 g5 hS  hHeld
    refine wpAnyH_ready (rs := [3, 16]) (by kernel_rfl) (by simp) ?_
    refine hcons rfl rfl (fun K hK => ?_) ?_
    · clear hHeld
      refine owp_bslice1 (vs := [.int .u64 c.id]) hS rfl rfl (by rfl) (by decide) ?_
      clear hS; intro g1 _ hS; try simp only [List.cons_append, List.nil_append, List.append_nil, List.set_cons_zero, List.set_cons_succ] at hS
      refine hK.out _ _ ⟨⟨(hS.get 1 rfl).cell 0 H0.out, (hS.get 1 rfl).cell 1 H1.out, (hS.get 1 rfl).cell 2 H2.out, (hS.get 1 rfl).cell 35 H35.out⟩, (hS.get 1 rfl).range 3 32 Hh.out⟩ (fun hHeld => ?_)
      clear hK K
      simp only [Act.put, List.setIfInBounds_toArray, List.set_cons_succ, List.set_cons_zero]
      replace hS := hS.pick [0, 1, 5, 2, 3, 4] rfl (by decide)
      exact wpAnyH_listed (by kernel_rfl) (st_33 _ g1 g2 g3 g5 hS  hHeld)
    refine hcons rfl rfl (fun K hK => ?_) ?_
    · clear hHeld
      refine owp_bslice1 (vs := bs c.hash) hS rfl rfl Hhash.out (by decide) ?_
      clear hS; intro g4 _ hS; try simp only [List.cons_append, List.nil_append, List.append_nil, List.set_cons_zero, List.set_cons_succ] at hS
      refine hK.out _ _ ⟨⟨(hS.get 1 rfl).cell 0 H0.out, (hS.get 1 rfl).cell 1 H1.out, (hS.get 1 rfl).cell 2 H2.out, (hS.get 1 rfl).cell 35 H35.out⟩, (hS.get 1 rfl).range 3 32 Hh.out⟩ (fun hHeld => ?_)
      clear hK K
      simp only [Act.put, List.setIfInBounds_toArray, List.set_cons_succ, List.set_cons_zero]
      replace hS := hS.pick [0, 1, 2, 3, 5, 4] rfl (by decide)
      exact wpAnyH_listed (by kernel_rfl) (st_47 _ g2 g3 g4 g5 hS  hHeld)
    exact AllReadyH.nil
  have st_50 : ∀ (w' : World) (g2 : Nat) (g3 : Nat) (hS : St w (keys [x]) w' [x, some (gs, cs, 86), some (g2, bs [UInt8.ofNat c.side.toNat], 5), some (g3, [.int .u64 c.amount], 27)])  (hHeld : (fun w' => (w'.cell? ⟨gs, 0, none⟩ = some (.int .u64 c.id) ∧ w'.cell? ⟨gs, 1, none⟩ = some (.int .i64 c.side) ∧ w'.cell? ⟨gs, 2, none⟩ = some (.int .u64 c.amount) ∧ w'.cell? ⟨gs, 35, none⟩ = some (.int .u64 c.expiry)) ∧ CellsAt w' ⟨gs, 3, none⟩ (bs c.hash)) w'), wpAnyH Try.prog Region.Mode.any ops61 Q (fun w' => (w'.cell? ⟨gs, 0, none⟩ = some (.int .u64 c.id) ∧ w'.cell? ⟨gs, 1, none⟩ = some (.int .i64 c.side) ∧ w'.cell? ⟨gs, 2, none⟩ = some (.int .u64 c.amount) ∧ w'.cell? ⟨gs, 35, none⟩ = some (.int .u64 c.expiry)) ∧ CellsAt w' ⟨gs, 3, none⟩ (bs c.hash)) 9 #[true, true, true, false, false, true, true, true, true, false, true, true, true, false, true, true, false, false, true, true, false, false, false] ⟨#[.slice a0 l.length c0, .agg cs.toArray, undef, .pointer (some ⟨gs, 0, none⟩), .slice none 0 0, (.slice a0 l.length c0), (.pointer (some ⟨gs, 0, none⟩)), (.int .u64 c.id), undef, undef, (.pointer (some ⟨gs, 1, none⟩)), (.int .i64 c.side), (.int .u8 c.side), .slice (some ⟨g2, 0, none⟩) 1 1, undef, (.pointer (some ⟨gs, 2, none⟩)), (.int .u64 c.amount), .slice (some ⟨g3, 0, none⟩) 1 1, undef, (.pointer (some ⟨gs, 3, none⟩)), (.agg (bs c.hash).toArray), undef, undef, (.pointer (some ⟨gs, 35, none⟩)), (.int .u64 c.expiry), undef, undef], []⟩ w' := by
    intro w' g2 g3 hS  hHeld
    refine wpAnyH_ready (rs := [3, 16, 20]) (by kernel_rfl) (by simp) ?_
    refine hcons rfl rfl (fun K hK => ?_) ?_
    · clear hHeld
      refine owp_bslice1 (vs := [.int .u64 c.id]) hS rfl rfl (by rfl) (by decide) ?_
      clear hS; intro g1 _ hS; try simp only [List.cons_append, List.nil_append, List.append_nil, List.set_cons_zero, List.set_cons_succ] at hS
      refine hK.out _ _ ⟨⟨(hS.get 1 rfl).cell 0 H0.out, (hS.get 1 rfl).cell 1 H1.out, (hS.get 1 rfl).cell 2 H2.out, (hS.get 1 rfl).cell 35 H35.out⟩, (hS.get 1 rfl).range 3 32 Hh.out⟩ (fun hHeld => ?_)
      clear hK K
      simp only [Act.put, List.setIfInBounds_toArray, List.set_cons_succ, List.set_cons_zero]
      replace hS := hS.pick [0, 1, 4, 2, 3] rfl (by decide)
      exact wpAnyH_listed (by kernel_rfl) (st_34 _ g1 g2 g3 hS  hHeld)
    refine hcons rfl rfl (fun K hK => ?_) ?_
    · clear hHeld
      refine owp_bslice1 (vs := bs c.hash) hS rfl rfl Hhash.out (by decide) ?_
      clear hS; intro g4 _ hS; try simp only [List.cons_append, List.nil_append, List.append_nil, List.set_cons_zero, List.set_cons_succ] at hS
      refine hK.out _ _ ⟨⟨(hS.get 1 rfl).cell 0 H0.out, (hS.get 1 rfl).cell 1 H1.out, (hS.get 1 rfl).cell 2 H2.out, (hS.get 1 rfl).cell 35 H35.out⟩, (hS.get 1 rfl).range 3 32 Hh.out⟩ (fun hHeld => ?_)
      clear hK K
      simp only [Act.put, List.setIfInBounds_toArray, List.set_cons_succ, List.set_cons_zero]
      exact wpAnyH_listed (by kernel_rfl) (st_48 _ g2 g3 g4 hS  hHeld)
    refine hcons rfl rfl (fun K hK => ?_) ?_
    · clear hHeld
      refine owp_bslice1 (vs := [.int .u64 c.expiry]) hS rfl rfl (by rfl) (by decide) ?_
      clear hS; intro g5 _ hS; try simp only [List.cons_append, List.nil_append, List.append_nil, List.set_cons_zero, List.set_cons_succ] at hS
      refine hK.out _ _ ⟨⟨(hS.get 1 rfl).cell 0 H0.out, (hS.get 1 rfl).cell 1 H1.out, (hS.get 1 rfl).cell 2 H2.out, (hS.get 1 rfl).cell 35 H35.out⟩, (hS.get 1 rfl).range 3 32 Hh.out⟩ (fun hHeld => ?_)
      clear hK K
      simp only [Act.put, List.setIfInBounds_toArray, List.set_cons_succ, List.set_cons_zero]
      exact wpAnyH_listed (by kernel_rfl) (st_49 _ g2 g3 g5 hS  hHeld)
    exact AllReadyH.nil
  have st_51 : ∀ (w' : World) (g2 : Nat) (g4 : Nat) (g5 : Nat) (hS : St w (keys [x]) w' [x, some (gs, cs, 86), some (g2, bs [UInt8.ofNat c.side.toNat], 5), some (g4, bs c.hash, 50), some (g5, [.int .u64 c.expiry], 27)])  (hHeld : (fun w' => (w'.cell? ⟨gs, 0, none⟩ = some (.int .u64 c.id) ∧ w'.cell? ⟨gs, 1, none⟩ = some (.int .i64 c.side) ∧ w'.cell? ⟨gs, 2, none⟩ = some (.int .u64 c.amount) ∧ w'.cell? ⟨gs, 35, none⟩ = some (.int .u64 c.expiry)) ∧ CellsAt w' ⟨gs, 3, none⟩ (bs c.hash)) w'), wpAnyH Try.prog Region.Mode.any ops61 Q (fun w' => (w'.cell? ⟨gs, 0, none⟩ = some (.int .u64 c.id) ∧ w'.cell? ⟨gs, 1, none⟩ = some (.int .i64 c.side) ∧ w'.cell? ⟨gs, 2, none⟩ = some (.int .u64 c.amount) ∧ w'.cell? ⟨gs, 35, none⟩ = some (.int .u64 c.expiry)) ∧ CellsAt w' ⟨gs, 3, none⟩ (bs c.hash)) 8 #[true, true, true, false, false, true, true, true, true, false, true, true, false, false, true, true, true, false, true, true, true, false, false] ⟨#[.slice a0 l.length c0, .agg cs.toArray, undef, .pointer (some ⟨gs, 0, none⟩), .slice none 0 0, (.slice a0 l.length c0), (.pointer (some ⟨gs, 0, none⟩)), (.int .u64 c.id), undef, undef, (.pointer (some ⟨gs, 1, none⟩)), (.int .i64 c.side), (.int .u8 c.side), .slice (some ⟨g2, 0, none⟩) 1 1, undef, (.pointer (some ⟨gs, 2, none⟩)), (.int .u64 c.amount), undef, undef, (.pointer (some ⟨gs, 3, none⟩)), (.agg (bs c.hash).toArray), .slice (some ⟨g4, 0, none⟩) 1 1, undef, (.pointer (some ⟨gs, 35, none⟩)), (.int .u64 c.expiry), .slice (some ⟨g5, 0, none⟩) 1 1, undef], []⟩ w' := by
    intro w' g2 g4 g5 hS  hHeld
    refine wpAnyH_ready (rs := [3, 12]) (by kernel_rfl) (by simp) ?_
    refine hcons rfl rfl (fun K hK => ?_) ?_
    · clear hHeld
      refine owp_bslice1 (vs := [.int .u64 c.id]) hS rfl rfl (by rfl) (by decide) ?_
      clear hS; intro g1 _ hS; try simp only [List.cons_append, List.nil_append, List.append_nil, List.set_cons_zero, List.set_cons_succ] at hS
      refine hK.out _ _ ⟨⟨(hS.get 1 rfl).cell 0 H0.out, (hS.get 1 rfl).cell 1 H1.out, (hS.get 1 rfl).cell 2 H2.out, (hS.get 1 rfl).cell 35 H35.out⟩, (hS.get 1 rfl).range 3 32 Hh.out⟩ (fun hHeld => ?_)
      clear hK K
      simp only [Act.put, List.setIfInBounds_toArray, List.set_cons_succ, List.set_cons_zero]
      replace hS := hS.pick [0, 1, 5, 2, 3, 4] rfl (by decide)
      exact wpAnyH_listed (by kernel_rfl) (st_35 _ g1 g2 g4 g5 hS  hHeld)
    refine hcons rfl rfl (fun K hK => ?_) ?_
    · clear hHeld
      refine owp_bslice1 (vs := [.int .u64 c.amount]) hS rfl rfl (by rfl) (by decide) ?_
      clear hS; intro g3 _ hS; try simp only [List.cons_append, List.nil_append, List.append_nil, List.set_cons_zero, List.set_cons_succ] at hS
      refine hK.out _ _ ⟨⟨(hS.get 1 rfl).cell 0 H0.out, (hS.get 1 rfl).cell 1 H1.out, (hS.get 1 rfl).cell 2 H2.out, (hS.get 1 rfl).cell 35 H35.out⟩, (hS.get 1 rfl).range 3 32 Hh.out⟩ (fun hHeld => ?_)
      clear hK K
      simp only [Act.put, List.setIfInBounds_toArray, List.set_cons_succ, List.set_cons_zero]
      replace hS := hS.pick [0, 1, 2, 5, 3, 4] rfl (by decide)
      exact wpAnyH_listed (by kernel_rfl) (st_47 _ g2 g3 g4 g5 hS  hHeld)
    exact AllReadyH.nil
  have st_52 : ∀ (w' : World) (g2 : Nat) (g4 : Nat) (hS : St w (keys [x]) w' [x, some (gs, cs, 86), some (g2, bs [UInt8.ofNat c.side.toNat], 5), some (g4, bs c.hash, 50)])  (hHeld : (fun w' => (w'.cell? ⟨gs, 0, none⟩ = some (.int .u64 c.id) ∧ w'.cell? ⟨gs, 1, none⟩ = some (.int .i64 c.side) ∧ w'.cell? ⟨gs, 2, none⟩ = some (.int .u64 c.amount) ∧ w'.cell? ⟨gs, 35, none⟩ = some (.int .u64 c.expiry)) ∧ CellsAt w' ⟨gs, 3, none⟩ (bs c.hash)) w'), wpAnyH Try.prog Region.Mode.any ops61 Q (fun w' => (w'.cell? ⟨gs, 0, none⟩ = some (.int .u64 c.id) ∧ w'.cell? ⟨gs, 1, none⟩ = some (.int .i64 c.side) ∧ w'.cell? ⟨gs, 2, none⟩ = some (.int .u64 c.amount) ∧ w'.cell? ⟨gs, 35, none⟩ = some (.int .u64 c.expiry)) ∧ CellsAt w' ⟨gs, 3, none⟩ (bs c.hash)) 9 #[true, true, true, false, false, true, true, true, true, false, true, true, false, false, true, true, true, false, true, true, false, false, false] ⟨#[.slice a0 l.length c0, .agg cs.toArray, undef, .pointer (some ⟨gs, 0, none⟩), .slice none 0 0, (.slice a0 l.length c0), (.pointer (some ⟨gs, 0, none⟩)), (.int .u64 c.id), undef, undef, (.pointer (some ⟨gs, 1, none⟩)), (.int .i64 c.side), (.int .u8 c.side), .slice (some ⟨g2, 0, none⟩) 1 1, undef, (.pointer (some ⟨gs, 2, none⟩)), (.int .u64 c.amount), undef, undef, (.pointer (some ⟨gs, 3, none⟩)), (.agg (bs c.hash).toArray), .slice (some ⟨g4, 0, none⟩) 1 1, undef, (.pointer (some ⟨gs, 35, none⟩)), (.int .u64 c.expiry), undef, undef], []⟩ w' := by
    intro w' g2 g4 hS  hHeld
    refine wpAnyH_ready (rs := [3, 12, 20]) (by kernel_rfl) (by simp) ?_
    refine hcons rfl rfl (fun K hK => ?_) ?_
    · clear hHeld
      refine owp_bslice1 (vs := [.int .u64 c.id]) hS rfl rfl (by rfl) (by decide) ?_
      clear hS; intro g1 _ hS; try simp only [List.cons_append, List.nil_append, List.append_nil, List.set_cons_zero, List.set_cons_succ] at hS
      refine hK.out _ _ ⟨⟨(hS.get 1 rfl).cell 0 H0.out, (hS.get 1 rfl).cell 1 H1.out, (hS.get 1 rfl).cell 2 H2.out, (hS.get 1 rfl).cell 35 H35.out⟩, (hS.get 1 rfl).range 3 32 Hh.out⟩ (fun hHeld => ?_)
      clear hK K
      simp only [Act.put, List.setIfInBounds_toArray, List.set_cons_succ, List.set_cons_zero]
      replace hS := hS.pick [0, 1, 4, 2, 3] rfl (by decide)
      exact wpAnyH_listed (by kernel_rfl) (st_36 _ g1 g2 g4 hS  hHeld)
    refine hcons rfl rfl (fun K hK => ?_) ?_
    · clear hHeld
      refine owp_bslice1 (vs := [.int .u64 c.amount]) hS rfl rfl (by rfl) (by decide) ?_
      clear hS; intro g3 _ hS; try simp only [List.cons_append, List.nil_append, List.append_nil, List.set_cons_zero, List.set_cons_succ] at hS
      refine hK.out _ _ ⟨⟨(hS.get 1 rfl).cell 0 H0.out, (hS.get 1 rfl).cell 1 H1.out, (hS.get 1 rfl).cell 2 H2.out, (hS.get 1 rfl).cell 35 H35.out⟩, (hS.get 1 rfl).range 3 32 Hh.out⟩ (fun hHeld => ?_)
      clear hK K
      simp only [Act.put, List.setIfInBounds_toArray, List.set_cons_succ, List.set_cons_zero]
      replace hS := hS.pick [0, 1, 2, 4, 3] rfl (by decide)
      exact wpAnyH_listed (by kernel_rfl) (st_48 _ g2 g3 g4 hS  hHeld)
    refine hcons rfl rfl (fun K hK => ?_) ?_
    · clear hHeld
      refine owp_bslice1 (vs := [.int .u64 c.expiry]) hS rfl rfl (by rfl) (by decide) ?_
      clear hS; intro g5 _ hS; try simp only [List.cons_append, List.nil_append, List.append_nil, List.set_cons_zero, List.set_cons_succ] at hS
      refine hK.out _ _ ⟨⟨(hS.get 1 rfl).cell 0 H0.out, (hS.get 1 rfl).cell 1 H1.out, (hS.get 1 rfl).cell 2 H2.out, (hS.get 1 rfl).cell 35 H35.out⟩, (hS.get 1 rfl).range 3 32 Hh.out⟩ (fun hHeld => ?_)
      clear hK K
      simp only [Act.put, List.setIfInBounds_toArray, List.set_cons_succ, List.set_cons_zero]
      exact wpAnyH_listed (by kernel_rfl) (st_51 _ g2 g4 g5 hS  hHeld)
    exact AllReadyH.nil
  have st_53 : ∀ (w' : World) (g2 : Nat) (g5 : Nat) (hS : St w (keys [x]) w' [x, some (gs, cs, 86), some (g2, bs [UInt8.ofNat c.side.toNat], 5), some (g5, [.int .u64 c.expiry], 27)])  (hHeld : (fun w' => (w'.cell? ⟨gs, 0, none⟩ = some (.int .u64 c.id) ∧ w'.cell? ⟨gs, 1, none⟩ = some (.int .i64 c.side) ∧ w'.cell? ⟨gs, 2, none⟩ = some (.int .u64 c.amount) ∧ w'.cell? ⟨gs, 35, none⟩ = some (.int .u64 c.expiry)) ∧ CellsAt w' ⟨gs, 3, none⟩ (bs c.hash)) w'), wpAnyH Try.prog Region.Mode.any ops61 Q (fun w' => (w'.cell? ⟨gs, 0, none⟩ = some (.int .u64 c.id) ∧ w'.cell? ⟨gs, 1, none⟩ = some (.int .i64 c.side) ∧ w'.cell? ⟨gs, 2, none⟩ = some (.int .u64 c.amount) ∧ w'.cell? ⟨gs, 35, none⟩ = some (.int .u64 c.expiry)) ∧ CellsAt w' ⟨gs, 3, none⟩ (bs c.hash)) 9 #[true, true, true, false, false, true, true, true, true, false, true, true, false, false, true, true, false, false, true, true, true, false, false] ⟨#[.slice a0 l.length c0, .agg cs.toArray, undef, .pointer (some ⟨gs, 0, none⟩), .slice none 0 0, (.slice a0 l.length c0), (.pointer (some ⟨gs, 0, none⟩)), (.int .u64 c.id), undef, undef, (.pointer (some ⟨gs, 1, none⟩)), (.int .i64 c.side), (.int .u8 c.side), .slice (some ⟨g2, 0, none⟩) 1 1, undef, (.pointer (some ⟨gs, 2, none⟩)), (.int .u64 c.amount), undef, undef, (.pointer (some ⟨gs, 3, none⟩)), (.agg (bs c.hash).toArray), undef, undef, (.pointer (some ⟨gs, 35, none⟩)), (.int .u64 c.expiry), .slice (some ⟨g5, 0, none⟩) 1 1, undef], []⟩ w' := by
    intro w' g2 g5 hS  hHeld
    refine wpAnyH_ready (rs := [3, 12, 16]) (by kernel_rfl) (by simp) ?_
    refine hcons rfl rfl (fun K hK => ?_) ?_
    · clear hHeld
      refine owp_bslice1 (vs := [.int .u64 c.id]) hS rfl rfl (by rfl) (by decide) ?_
      clear hS; intro g1 _ hS; try simp only [List.cons_append, List.nil_append, List.append_nil, List.set_cons_zero, List.set_cons_succ] at hS
      refine hK.out _ _ ⟨⟨(hS.get 1 rfl).cell 0 H0.out, (hS.get 1 rfl).cell 1 H1.out, (hS.get 1 rfl).cell 2 H2.out, (hS.get 1 rfl).cell 35 H35.out⟩, (hS.get 1 rfl).range 3 32 Hh.out⟩ (fun hHeld => ?_)
      clear hK K
      simp only [Act.put, List.setIfInBounds_toArray, List.set_cons_succ, List.set_cons_zero]
      replace hS := hS.pick [0, 1, 4, 2, 3] rfl (by decide)
      exact wpAnyH_listed (by kernel_rfl) (st_37 _ g1 g2 g5 hS  hHeld)
    refine hcons rfl rfl (fun K hK => ?_) ?_
    · clear hHeld
      refine owp_bslice1 (vs := [.int .u64 c.amount]) hS rfl rfl (by rfl) (by decide) ?_
      clear hS; intro g3 _ hS; try simp only [List.cons_append, List.nil_append, List.append_nil, List.set_cons_zero, List.set_cons_succ] at hS
      refine hK.out _ _ ⟨⟨(hS.get 1 rfl).cell 0 H0.out, (hS.get 1 rfl).cell 1 H1.out, (hS.get 1 rfl).cell 2 H2.out, (hS.get 1 rfl).cell 35 H35.out⟩, (hS.get 1 rfl).range 3 32 Hh.out⟩ (fun hHeld => ?_)
      clear hK K
      simp only [Act.put, List.setIfInBounds_toArray, List.set_cons_succ, List.set_cons_zero]
      replace hS := hS.pick [0, 1, 2, 4, 3] rfl (by decide)
      exact wpAnyH_listed (by kernel_rfl) (st_49 _ g2 g3 g5 hS  hHeld)
    refine hcons rfl rfl (fun K hK => ?_) ?_
    · clear hHeld
      refine owp_bslice1 (vs := bs c.hash) hS rfl rfl Hhash.out (by decide) ?_
      clear hS; intro g4 _ hS; try simp only [List.cons_append, List.nil_append, List.append_nil, List.set_cons_zero, List.set_cons_succ] at hS
      refine hK.out _ _ ⟨⟨(hS.get 1 rfl).cell 0 H0.out, (hS.get 1 rfl).cell 1 H1.out, (hS.get 1 rfl).cell 2 H2.out, (hS.get 1 rfl).cell 35 H35.out⟩, (hS.get 1 rfl).range 3 32 Hh.out⟩ (fun hHeld => ?_)
      clear hK K
      simp only [Act.put, List.setIfInBounds_toArray, List.set_cons_succ, List.set_cons_zero]
      replace hS := hS.pick [0, 1, 2, 4, 3] rfl (by decide)
      exact wpAnyH_listed (by kernel_rfl) (st_51 _ g2 g4 g5 hS  hHeld)
    exact AllReadyH.nil
  have st_54 : ∀ (w' : World) (g2 : Nat) (hS : St w (keys [x]) w' [x, some (gs, cs, 86), some (g2, bs [UInt8.ofNat c.side.toNat], 5)])  (hHeld : (fun w' => (w'.cell? ⟨gs, 0, none⟩ = some (.int .u64 c.id) ∧ w'.cell? ⟨gs, 1, none⟩ = some (.int .i64 c.side) ∧ w'.cell? ⟨gs, 2, none⟩ = some (.int .u64 c.amount) ∧ w'.cell? ⟨gs, 35, none⟩ = some (.int .u64 c.expiry)) ∧ CellsAt w' ⟨gs, 3, none⟩ (bs c.hash)) w'), wpAnyH Try.prog Region.Mode.any ops61 Q (fun w' => (w'.cell? ⟨gs, 0, none⟩ = some (.int .u64 c.id) ∧ w'.cell? ⟨gs, 1, none⟩ = some (.int .i64 c.side) ∧ w'.cell? ⟨gs, 2, none⟩ = some (.int .u64 c.amount) ∧ w'.cell? ⟨gs, 35, none⟩ = some (.int .u64 c.expiry)) ∧ CellsAt w' ⟨gs, 3, none⟩ (bs c.hash)) 10 #[true, true, true, false, false, true, true, true, true, false, true, true, false, false, true, true, false, false, true, true, false, false, false] ⟨#[.slice a0 l.length c0, .agg cs.toArray, undef, .pointer (some ⟨gs, 0, none⟩), .slice none 0 0, (.slice a0 l.length c0), (.pointer (some ⟨gs, 0, none⟩)), (.int .u64 c.id), undef, undef, (.pointer (some ⟨gs, 1, none⟩)), (.int .i64 c.side), (.int .u8 c.side), .slice (some ⟨g2, 0, none⟩) 1 1, undef, (.pointer (some ⟨gs, 2, none⟩)), (.int .u64 c.amount), undef, undef, (.pointer (some ⟨gs, 3, none⟩)), (.agg (bs c.hash).toArray), undef, undef, (.pointer (some ⟨gs, 35, none⟩)), (.int .u64 c.expiry), undef, undef], []⟩ w' := by
    intro w' g2 hS  hHeld
    refine wpAnyH_ready (rs := [3, 12, 16, 20]) (by kernel_rfl) (by simp) ?_
    refine hcons rfl rfl (fun K hK => ?_) ?_
    · clear hHeld
      refine owp_bslice1 (vs := [.int .u64 c.id]) hS rfl rfl (by rfl) (by decide) ?_
      clear hS; intro g1 _ hS; try simp only [List.cons_append, List.nil_append, List.append_nil, List.set_cons_zero, List.set_cons_succ] at hS
      refine hK.out _ _ ⟨⟨(hS.get 1 rfl).cell 0 H0.out, (hS.get 1 rfl).cell 1 H1.out, (hS.get 1 rfl).cell 2 H2.out, (hS.get 1 rfl).cell 35 H35.out⟩, (hS.get 1 rfl).range 3 32 Hh.out⟩ (fun hHeld => ?_)
      clear hK K
      simp only [Act.put, List.setIfInBounds_toArray, List.set_cons_succ, List.set_cons_zero]
      replace hS := hS.pick [0, 1, 3, 2] rfl (by decide)
      exact wpAnyH_listed (by kernel_rfl) (st_38 _ g1 g2 hS  hHeld)
    refine hcons rfl rfl (fun K hK => ?_) ?_
    · clear hHeld
      refine owp_bslice1 (vs := [.int .u64 c.amount]) hS rfl rfl (by rfl) (by decide) ?_
      clear hS; intro g3 _ hS; try simp only [List.cons_append, List.nil_append, List.append_nil, List.set_cons_zero, List.set_cons_succ] at hS
      refine hK.out _ _ ⟨⟨(hS.get 1 rfl).cell 0 H0.out, (hS.get 1 rfl).cell 1 H1.out, (hS.get 1 rfl).cell 2 H2.out, (hS.get 1 rfl).cell 35 H35.out⟩, (hS.get 1 rfl).range 3 32 Hh.out⟩ (fun hHeld => ?_)
      clear hK K
      simp only [Act.put, List.setIfInBounds_toArray, List.set_cons_succ, List.set_cons_zero]
      exact wpAnyH_listed (by kernel_rfl) (st_50 _ g2 g3 hS  hHeld)
    refine hcons rfl rfl (fun K hK => ?_) ?_
    · clear hHeld
      refine owp_bslice1 (vs := bs c.hash) hS rfl rfl Hhash.out (by decide) ?_
      clear hS; intro g4 _ hS; try simp only [List.cons_append, List.nil_append, List.append_nil, List.set_cons_zero, List.set_cons_succ] at hS
      refine hK.out _ _ ⟨⟨(hS.get 1 rfl).cell 0 H0.out, (hS.get 1 rfl).cell 1 H1.out, (hS.get 1 rfl).cell 2 H2.out, (hS.get 1 rfl).cell 35 H35.out⟩, (hS.get 1 rfl).range 3 32 Hh.out⟩ (fun hHeld => ?_)
      clear hK K
      simp only [Act.put, List.setIfInBounds_toArray, List.set_cons_succ, List.set_cons_zero]
      exact wpAnyH_listed (by kernel_rfl) (st_52 _ g2 g4 hS  hHeld)
    refine hcons rfl rfl (fun K hK => ?_) ?_
    · clear hHeld
      refine owp_bslice1 (vs := [.int .u64 c.expiry]) hS rfl rfl (by rfl) (by decide) ?_
      clear hS; intro g5 _ hS; try simp only [List.cons_append, List.nil_append, List.append_nil, List.set_cons_zero, List.set_cons_succ] at hS
      refine hK.out _ _ ⟨⟨(hS.get 1 rfl).cell 0 H0.out, (hS.get 1 rfl).cell 1 H1.out, (hS.get 1 rfl).cell 2 H2.out, (hS.get 1 rfl).cell 35 H35.out⟩, (hS.get 1 rfl).range 3 32 Hh.out⟩ (fun hHeld => ?_)
      clear hK K
      simp only [Act.put, List.setIfInBounds_toArray, List.set_cons_succ, List.set_cons_zero]
      exact wpAnyH_listed (by kernel_rfl) (st_53 _ g2 g5 hS  hHeld)
    exact AllReadyH.nil
  have st_55 : ∀ (w' : World) (g3 : Nat) (g4 : Nat) (g5 : Nat) (hS : St w (keys [x]) w' [x, some (gs, cs, 86), some (g3, [.int .u64 c.amount], 27), some (g4, bs c.hash, 50), some (g5, [.int .u64 c.expiry], 27)])  (hHeld : (fun w' => (w'.cell? ⟨gs, 0, none⟩ = some (.int .u64 c.id) ∧ w'.cell? ⟨gs, 1, none⟩ = some (.int .i64 c.side) ∧ w'.cell? ⟨gs, 2, none⟩ = some (.int .u64 c.amount) ∧ w'.cell? ⟨gs, 35, none⟩ = some (.int .u64 c.expiry)) ∧ CellsAt w' ⟨gs, 3, none⟩ (bs c.hash)) w'), wpAnyH Try.prog Region.Mode.any ops61 Q (fun w' => (w'.cell? ⟨gs, 0, none⟩ = some (.int .u64 c.id) ∧ w'.cell? ⟨gs, 1, none⟩ = some (.int .i64 c.side) ∧ w'.cell? ⟨gs, 2, none⟩ = some (.int .u64 c.amount) ∧ w'.cell? ⟨gs, 35, none⟩ = some (.int .u64 c.expiry)) ∧ CellsAt w' ⟨gs, 3, none⟩ (bs c.hash)) 8 #[true, true, true, false, false, true, true, true, false, false, true, true, true, false, true, true, true, false, true, true, true, false, false] ⟨#[.slice a0 l.length c0, .agg cs.toArray, undef, .pointer (some ⟨gs, 0, none⟩), .slice none 0 0, (.slice a0 l.length c0), (.pointer (some ⟨gs, 0, none⟩)), (.int .u64 c.id), undef, undef, (.pointer (some ⟨gs, 1, none⟩)), (.int .i64 c.side), (.int .u8 c.side), undef, undef, (.pointer (some ⟨gs, 2, none⟩)), (.int .u64 c.amount), .slice (some ⟨g3, 0, none⟩) 1 1, undef, (.pointer (some ⟨gs, 3, none⟩)), (.agg (bs c.hash).toArray), .slice (some ⟨g4, 0, none⟩) 1 1, undef, (.pointer (some ⟨gs, 35, none⟩)), (.int .u64 c.expiry), .slice (some ⟨g5, 0, none⟩) 1 1, undef], []⟩ w' := by
    intro w' g3 g4 g5 hS  hHeld
    refine wpAnyH_ready (rs := [3, 8]) (by kernel_rfl) (by simp) ?_
    refine hcons rfl rfl (fun K hK => ?_) ?_
    · clear hHeld
      refine owp_bslice1 (vs := [.int .u64 c.id]) hS rfl rfl (by rfl) (by decide) ?_
      clear hS; intro g1 _ hS; try simp only [List.cons_append, List.nil_append, List.append_nil, List.set_cons_zero, List.set_cons_succ] at hS
      refine hK.out _ _ ⟨⟨(hS.get 1 rfl).cell 0 H0.out, (hS.get 1 rfl).cell 1 H1.out, (hS.get 1 rfl).cell 2 H2.out, (hS.get 1 rfl).cell 35 H35.out⟩, (hS.get 1 rfl).range 3 32 Hh.out⟩ (fun hHeld => ?_)
      clear hK K
      simp only [Act.put, List.setIfInBounds_toArray, List.set_cons_succ, List.set_cons_zero]
      replace hS := hS.pick [0, 1, 5, 2, 3, 4] rfl (by decide)
      exact wpAnyH_listed (by kernel_rfl) (st_39 _ g1 g3 g4 g5 hS  hHeld)
    refine hcons rfl rfl (fun K hK => ?_) ?_
    · clear hHeld
      refine owp_bslice1 (vs := [.int .u8 c.side]) hS rfl rfl (by rfl) (by decide) ?_
      clear hS; intro g2 _ hS; try simp only [List.cons_append, List.nil_append, List.append_nil, List.set_cons_zero, List.set_cons_succ] at hS
      rw [← Hside.out] at hS
      refine hK.out _ _ ⟨⟨(hS.get 1 rfl).cell 0 H0.out, (hS.get 1 rfl).cell 1 H1.out, (hS.get 1 rfl).cell 2 H2.out, (hS.get 1 rfl).cell 35 H35.out⟩, (hS.get 1 rfl).range 3 32 Hh.out⟩ (fun hHeld => ?_)
      clear hK K
      simp only [Act.put, List.setIfInBounds_toArray, List.set_cons_succ, List.set_cons_zero]
      replace hS := hS.pick [0, 1, 5, 2, 3, 4] rfl (by decide)
      exact wpAnyH_listed (by kernel_rfl) (st_47 _ g2 g3 g4 g5 hS  hHeld)
    exact AllReadyH.nil
  have st_56 : ∀ (w' : World) (g3 : Nat) (g4 : Nat) (hS : St w (keys [x]) w' [x, some (gs, cs, 86), some (g3, [.int .u64 c.amount], 27), some (g4, bs c.hash, 50)])  (hHeld : (fun w' => (w'.cell? ⟨gs, 0, none⟩ = some (.int .u64 c.id) ∧ w'.cell? ⟨gs, 1, none⟩ = some (.int .i64 c.side) ∧ w'.cell? ⟨gs, 2, none⟩ = some (.int .u64 c.amount) ∧ w'.cell? ⟨gs, 35, none⟩ = some (.int .u64 c.expiry)) ∧ CellsAt w' ⟨gs, 3, none⟩ (bs c.hash)) w'), wpAnyH Try.prog Region.Mode.any ops61 Q (fun w' => (w'.cell? ⟨gs, 0, none⟩ = some (.int .u64 c.id) ∧ w'.cell? ⟨gs, 1, none⟩ = some (.int .i64 c.side) ∧ w'.cell? ⟨gs, 2, none⟩ = some (.int .u64 c.amount) ∧ w'.cell? ⟨gs, 35, none⟩ = some (.int .u64 c.expiry)) ∧ CellsAt w' ⟨gs, 3, none⟩ (bs c.hash)) 9 #[true, true, true, false, false, true, true, true, false, false, true, true, true, false, true, true, true, false, true, true, false, false, false] ⟨#[.slice a0 l.length c0, .agg cs.toArray, undef, .pointer (some ⟨gs, 0, none⟩), .slice none 0 0, (.slice a0 l.length c0), (.pointer (some ⟨gs, 0, none⟩)), (.int .u64 c.id), undef, undef, (.pointer (some ⟨gs, 1, none⟩)), (.int .i64 c.side), (.int .u8 c.side), undef, undef, (.pointer (some ⟨gs, 2, none⟩)), (.int .u64 c.amount), .slice (some ⟨g3, 0, none⟩) 1 1, undef, (.pointer (some ⟨gs, 3, none⟩)), (.agg (bs c.hash).toArray), .slice (some ⟨g4, 0, none⟩) 1 1, undef, (.pointer (some ⟨gs, 35, none⟩)), (.int .u64 c.expiry), undef, undef], []⟩ w' := by
    intro w' g3 g4 hS  hHeld
    refine wpAnyH_ready (rs := [3, 8, 20]) (by kernel_rfl) (by simp) ?_
    refine hcons rfl rfl (fun K hK => ?_) ?_
    · clear hHeld
      refine owp_bslice1 (vs := [.int .u64 c.id]) hS rfl rfl (by rfl) (by decide) ?_
      clear hS; intro g1 _ hS; try simp only [List.cons_append, List.nil_append, List.append_nil, List.set_cons_zero, List.set_cons_succ] at hS
      refine hK.out _ _ ⟨⟨(hS.get 1 rfl).cell 0 H0.out, (hS.get 1 rfl).cell 1 H1.out, (hS.get 1 rfl).cell 2 H2.out, (hS.get 1 rfl).cell 35 H35.out⟩, (hS.get 1 rfl).range 3 32 Hh.out⟩ (fun hHeld => ?_)
      clear hK K
      simp only [Act.put, List.setIfInBounds_toArray, List.set_cons_succ, List.set_cons_zero]
      replace hS := hS.pick [0, 1, 4, 2, 3] rfl (by decide)
      exact wpAnyH_listed (by kernel_rfl) (st_40 _ g1 g3 g4 hS  hHeld)
    refine hcons rfl rfl (fun K hK => ?_) ?_
    · clear hHeld
      refine owp_bslice1 (vs := [.int .u8 c.side]) hS rfl rfl (by rfl) (by decide) ?_
      clear hS; intro g2 _ hS; try simp only [List.cons_append, List.nil_append, List.append_nil, List.set_cons_zero, List.set_cons_succ] at hS
      rw [← Hside.out] at hS
      refine hK.out _ _ ⟨⟨(hS.get 1 rfl).cell 0 H0.out, (hS.get 1 rfl).cell 1 H1.out, (hS.get 1 rfl).cell 2 H2.out, (hS.get 1 rfl).cell 35 H35.out⟩, (hS.get 1 rfl).range 3 32 Hh.out⟩ (fun hHeld => ?_)
      clear hK K
      simp only [Act.put, List.setIfInBounds_toArray, List.set_cons_succ, List.set_cons_zero]
      replace hS := hS.pick [0, 1, 4, 2, 3] rfl (by decide)
      exact wpAnyH_listed (by kernel_rfl) (st_48 _ g2 g3 g4 hS  hHeld)
    refine hcons rfl rfl (fun K hK => ?_) ?_
    · clear hHeld
      refine owp_bslice1 (vs := [.int .u64 c.expiry]) hS rfl rfl (by rfl) (by decide) ?_
      clear hS; intro g5 _ hS; try simp only [List.cons_append, List.nil_append, List.append_nil, List.set_cons_zero, List.set_cons_succ] at hS
      refine hK.out _ _ ⟨⟨(hS.get 1 rfl).cell 0 H0.out, (hS.get 1 rfl).cell 1 H1.out, (hS.get 1 rfl).cell 2 H2.out, (hS.get 1 rfl).cell 35 H35.out⟩, (hS.get 1 rfl).range 3 32 Hh.out⟩ (fun hHeld => ?_)
      clear hK K
      simp only [Act.put, List.setIfInBounds_toArray, List.set_cons_succ, List.set_cons_zero]
      exact wpAnyH_listed (by kernel_rfl) (st_55 _ g3 g4 g5 hS  hHeld)
    exact AllReadyH.nil
  have st_57 : ∀ (w' : World) (g3 : Nat) (g5 : Nat) (hS : St w (keys [x]) w' [x, some (gs, cs, 86), some (g3, [.int .u64 c.amount], 27), some (g5, [.int .u64 c.expiry], 27)])  (hHeld : (fun w' => (w'.cell? ⟨gs, 0, none⟩ = some (.int .u64 c.id) ∧ w'.cell? ⟨gs, 1, none⟩ = some (.int .i64 c.side) ∧ w'.cell? ⟨gs, 2, none⟩ = some (.int .u64 c.amount) ∧ w'.cell? ⟨gs, 35, none⟩ = some (.int .u64 c.expiry)) ∧ CellsAt w' ⟨gs, 3, none⟩ (bs c.hash)) w'), wpAnyH Try.prog Region.Mode.any ops61 Q (fun w' => (w'.cell? ⟨gs, 0, none⟩ = some (.int .u64 c.id) ∧ w'.cell? ⟨gs, 1, none⟩ = some (.int .i64 c.side) ∧ w'.cell? ⟨gs, 2, none⟩ = some (.int .u64 c.amount) ∧ w'.cell? ⟨gs, 35, none⟩ = some (.int .u64 c.expiry)) ∧ CellsAt w' ⟨gs, 3, none⟩ (bs c.hash)) 9 #[true, true, true, false, false, true, true, true, false, false, true, true, true, false, true, true, false, false, true, true, true, false, false] ⟨#[.slice a0 l.length c0, .agg cs.toArray, undef, .pointer (some ⟨gs, 0, none⟩), .slice none 0 0, (.slice a0 l.length c0), (.pointer (some ⟨gs, 0, none⟩)), (.int .u64 c.id), undef, undef, (.pointer (some ⟨gs, 1, none⟩)), (.int .i64 c.side), (.int .u8 c.side), undef, undef, (.pointer (some ⟨gs, 2, none⟩)), (.int .u64 c.amount), .slice (some ⟨g3, 0, none⟩) 1 1, undef, (.pointer (some ⟨gs, 3, none⟩)), (.agg (bs c.hash).toArray), undef, undef, (.pointer (some ⟨gs, 35, none⟩)), (.int .u64 c.expiry), .slice (some ⟨g5, 0, none⟩) 1 1, undef], []⟩ w' := by
    intro w' g3 g5 hS  hHeld
    refine wpAnyH_ready (rs := [3, 8, 16]) (by kernel_rfl) (by simp) ?_
    refine hcons rfl rfl (fun K hK => ?_) ?_
    · clear hHeld
      refine owp_bslice1 (vs := [.int .u64 c.id]) hS rfl rfl (by rfl) (by decide) ?_
      clear hS; intro g1 _ hS; try simp only [List.cons_append, List.nil_append, List.append_nil, List.set_cons_zero, List.set_cons_succ] at hS
      refine hK.out _ _ ⟨⟨(hS.get 1 rfl).cell 0 H0.out, (hS.get 1 rfl).cell 1 H1.out, (hS.get 1 rfl).cell 2 H2.out, (hS.get 1 rfl).cell 35 H35.out⟩, (hS.get 1 rfl).range 3 32 Hh.out⟩ (fun hHeld => ?_)
      clear hK K
      simp only [Act.put, List.setIfInBounds_toArray, List.set_cons_succ, List.set_cons_zero]
      replace hS := hS.pick [0, 1, 4, 2, 3] rfl (by decide)
      exact wpAnyH_listed (by kernel_rfl) (st_41 _ g1 g3 g5 hS  hHeld)
    refine hcons rfl rfl (fun K hK => ?_) ?_
    · clear hHeld
      refine owp_bslice1 (vs := [.int .u8 c.side]) hS rfl rfl (by rfl) (by decide) ?_
      clear hS; intro g2 _ hS; try simp only [List.cons_append, List.nil_append, List.append_nil, List.set_cons_zero, List.set_cons_succ] at hS
      rw [← Hside.out] at hS
      refine hK.out _ _ ⟨⟨(hS.get 1 rfl).cell 0 H0.out, (hS.get 1 rfl).cell 1 H1.out, (hS.get 1 rfl).cell 2 H2.out, (hS.get 1 rfl).cell 35 H35.out⟩, (hS.get 1 rfl).range 3 32 Hh.out⟩ (fun hHeld => ?_)
      clear hK K
      simp only [Act.put, List.setIfInBounds_toArray, List.set_cons_succ, List.set_cons_zero]
      replace hS := hS.pick [0, 1, 4, 2, 3] rfl (by decide)
      exact wpAnyH_listed (by kernel_rfl) (st_49 _ g2 g3 g5 hS  hHeld)
    refine hcons rfl rfl (fun K hK => ?_) ?_
    · clear hHeld
      refine owp_bslice1 (vs := bs c.hash) hS rfl rfl Hhash.out (by decide) ?_
      clear hS; intro g4 _ hS; try simp only [List.cons_append, List.nil_append, List.append_nil, List.set_cons_zero, List.set_cons_succ] at hS
      refine hK.out _ _ ⟨⟨(hS.get 1 rfl).cell 0 H0.out, (hS.get 1 rfl).cell 1 H1.out, (hS.get 1 rfl).cell 2 H2.out, (hS.get 1 rfl).cell 35 H35.out⟩, (hS.get 1 rfl).range 3 32 Hh.out⟩ (fun hHeld => ?_)
      clear hK K
      simp only [Act.put, List.setIfInBounds_toArray, List.set_cons_succ, List.set_cons_zero]
      replace hS := hS.pick [0, 1, 2, 4, 3] rfl (by decide)
      exact wpAnyH_listed (by kernel_rfl) (st_55 _ g3 g4 g5 hS  hHeld)
    exact AllReadyH.nil
  have st_58 : ∀ (w' : World) (g3 : Nat) (hS : St w (keys [x]) w' [x, some (gs, cs, 86), some (g3, [.int .u64 c.amount], 27)])  (hHeld : (fun w' => (w'.cell? ⟨gs, 0, none⟩ = some (.int .u64 c.id) ∧ w'.cell? ⟨gs, 1, none⟩ = some (.int .i64 c.side) ∧ w'.cell? ⟨gs, 2, none⟩ = some (.int .u64 c.amount) ∧ w'.cell? ⟨gs, 35, none⟩ = some (.int .u64 c.expiry)) ∧ CellsAt w' ⟨gs, 3, none⟩ (bs c.hash)) w'), wpAnyH Try.prog Region.Mode.any ops61 Q (fun w' => (w'.cell? ⟨gs, 0, none⟩ = some (.int .u64 c.id) ∧ w'.cell? ⟨gs, 1, none⟩ = some (.int .i64 c.side) ∧ w'.cell? ⟨gs, 2, none⟩ = some (.int .u64 c.amount) ∧ w'.cell? ⟨gs, 35, none⟩ = some (.int .u64 c.expiry)) ∧ CellsAt w' ⟨gs, 3, none⟩ (bs c.hash)) 10 #[true, true, true, false, false, true, true, true, false, false, true, true, true, false, true, true, false, false, true, true, false, false, false] ⟨#[.slice a0 l.length c0, .agg cs.toArray, undef, .pointer (some ⟨gs, 0, none⟩), .slice none 0 0, (.slice a0 l.length c0), (.pointer (some ⟨gs, 0, none⟩)), (.int .u64 c.id), undef, undef, (.pointer (some ⟨gs, 1, none⟩)), (.int .i64 c.side), (.int .u8 c.side), undef, undef, (.pointer (some ⟨gs, 2, none⟩)), (.int .u64 c.amount), .slice (some ⟨g3, 0, none⟩) 1 1, undef, (.pointer (some ⟨gs, 3, none⟩)), (.agg (bs c.hash).toArray), undef, undef, (.pointer (some ⟨gs, 35, none⟩)), (.int .u64 c.expiry), undef, undef], []⟩ w' := by
    intro w' g3 hS  hHeld
    refine wpAnyH_ready (rs := [3, 8, 16, 20]) (by kernel_rfl) (by simp) ?_
    refine hcons rfl rfl (fun K hK => ?_) ?_
    · clear hHeld
      refine owp_bslice1 (vs := [.int .u64 c.id]) hS rfl rfl (by rfl) (by decide) ?_
      clear hS; intro g1 _ hS; try simp only [List.cons_append, List.nil_append, List.append_nil, List.set_cons_zero, List.set_cons_succ] at hS
      refine hK.out _ _ ⟨⟨(hS.get 1 rfl).cell 0 H0.out, (hS.get 1 rfl).cell 1 H1.out, (hS.get 1 rfl).cell 2 H2.out, (hS.get 1 rfl).cell 35 H35.out⟩, (hS.get 1 rfl).range 3 32 Hh.out⟩ (fun hHeld => ?_)
      clear hK K
      simp only [Act.put, List.setIfInBounds_toArray, List.set_cons_succ, List.set_cons_zero]
      replace hS := hS.pick [0, 1, 3, 2] rfl (by decide)
      exact wpAnyH_listed (by kernel_rfl) (st_42 _ g1 g3 hS  hHeld)
    refine hcons rfl rfl (fun K hK => ?_) ?_
    · clear hHeld
      refine owp_bslice1 (vs := [.int .u8 c.side]) hS rfl rfl (by rfl) (by decide) ?_
      clear hS; intro g2 _ hS; try simp only [List.cons_append, List.nil_append, List.append_nil, List.set_cons_zero, List.set_cons_succ] at hS
      rw [← Hside.out] at hS
      refine hK.out _ _ ⟨⟨(hS.get 1 rfl).cell 0 H0.out, (hS.get 1 rfl).cell 1 H1.out, (hS.get 1 rfl).cell 2 H2.out, (hS.get 1 rfl).cell 35 H35.out⟩, (hS.get 1 rfl).range 3 32 Hh.out⟩ (fun hHeld => ?_)
      clear hK K
      simp only [Act.put, List.setIfInBounds_toArray, List.set_cons_succ, List.set_cons_zero]
      replace hS := hS.pick [0, 1, 3, 2] rfl (by decide)
      exact wpAnyH_listed (by kernel_rfl) (st_50 _ g2 g3 hS  hHeld)
    refine hcons rfl rfl (fun K hK => ?_) ?_
    · clear hHeld
      refine owp_bslice1 (vs := bs c.hash) hS rfl rfl Hhash.out (by decide) ?_
      clear hS; intro g4 _ hS; try simp only [List.cons_append, List.nil_append, List.append_nil, List.set_cons_zero, List.set_cons_succ] at hS
      refine hK.out _ _ ⟨⟨(hS.get 1 rfl).cell 0 H0.out, (hS.get 1 rfl).cell 1 H1.out, (hS.get 1 rfl).cell 2 H2.out, (hS.get 1 rfl).cell 35 H35.out⟩, (hS.get 1 rfl).range 3 32 Hh.out⟩ (fun hHeld => ?_)
      clear hK K
      simp only [Act.put, List.setIfInBounds_toArray, List.set_cons_succ, List.set_cons_zero]
      exact wpAnyH_listed (by kernel_rfl) (st_56 _ g3 g4 hS  hHeld)
    refine hcons rfl rfl (fun K hK => ?_) ?_
    · clear hHeld
      refine owp_bslice1 (vs := [.int .u64 c.expiry]) hS rfl rfl (by rfl) (by decide) ?_
      clear hS; intro g5 _ hS; try simp only [List.cons_append, List.nil_append, List.append_nil, List.set_cons_zero, List.set_cons_succ] at hS
      refine hK.out _ _ ⟨⟨(hS.get 1 rfl).cell 0 H0.out, (hS.get 1 rfl).cell 1 H1.out, (hS.get 1 rfl).cell 2 H2.out, (hS.get 1 rfl).cell 35 H35.out⟩, (hS.get 1 rfl).range 3 32 Hh.out⟩ (fun hHeld => ?_)
      clear hK K
      simp only [Act.put, List.setIfInBounds_toArray, List.set_cons_succ, List.set_cons_zero]
      exact wpAnyH_listed (by kernel_rfl) (st_57 _ g3 g5 hS  hHeld)
    exact AllReadyH.nil
  have st_59 : ∀ (w' : World) (g4 : Nat) (g5 : Nat) (hS : St w (keys [x]) w' [x, some (gs, cs, 86), some (g4, bs c.hash, 50), some (g5, [.int .u64 c.expiry], 27)])  (hHeld : (fun w' => (w'.cell? ⟨gs, 0, none⟩ = some (.int .u64 c.id) ∧ w'.cell? ⟨gs, 1, none⟩ = some (.int .i64 c.side) ∧ w'.cell? ⟨gs, 2, none⟩ = some (.int .u64 c.amount) ∧ w'.cell? ⟨gs, 35, none⟩ = some (.int .u64 c.expiry)) ∧ CellsAt w' ⟨gs, 3, none⟩ (bs c.hash)) w'), wpAnyH Try.prog Region.Mode.any ops61 Q (fun w' => (w'.cell? ⟨gs, 0, none⟩ = some (.int .u64 c.id) ∧ w'.cell? ⟨gs, 1, none⟩ = some (.int .i64 c.side) ∧ w'.cell? ⟨gs, 2, none⟩ = some (.int .u64 c.amount) ∧ w'.cell? ⟨gs, 35, none⟩ = some (.int .u64 c.expiry)) ∧ CellsAt w' ⟨gs, 3, none⟩ (bs c.hash)) 9 #[true, true, true, false, false, true, true, true, false, false, true, true, false, false, true, true, true, false, true, true, true, false, false] ⟨#[.slice a0 l.length c0, .agg cs.toArray, undef, .pointer (some ⟨gs, 0, none⟩), .slice none 0 0, (.slice a0 l.length c0), (.pointer (some ⟨gs, 0, none⟩)), (.int .u64 c.id), undef, undef, (.pointer (some ⟨gs, 1, none⟩)), (.int .i64 c.side), (.int .u8 c.side), undef, undef, (.pointer (some ⟨gs, 2, none⟩)), (.int .u64 c.amount), undef, undef, (.pointer (some ⟨gs, 3, none⟩)), (.agg (bs c.hash).toArray), .slice (some ⟨g4, 0, none⟩) 1 1, undef, (.pointer (some ⟨gs, 35, none⟩)), (.int .u64 c.expiry), .slice (some ⟨g5, 0, none⟩) 1 1, undef], []⟩ w' := by
    intro w' g4 g5 hS  hHeld
    refine wpAnyH_ready (rs := [3, 8, 12]) (by kernel_rfl) (by simp) ?_
    refine hcons rfl rfl (fun K hK => ?_) ?_
    · clear hHeld
      refine owp_bslice1 (vs := [.int .u64 c.id]) hS rfl rfl (by rfl) (by decide) ?_
      clear hS; intro g1 _ hS; try simp only [List.cons_append, List.nil_append, List.append_nil, List.set_cons_zero, List.set_cons_succ] at hS
      refine hK.out _ _ ⟨⟨(hS.get 1 rfl).cell 0 H0.out, (hS.get 1 rfl).cell 1 H1.out, (hS.get 1 rfl).cell 2 H2.out, (hS.get 1 rfl).cell 35 H35.out⟩, (hS.get 1 rfl).range 3 32 Hh.out⟩ (fun hHeld => ?_)
      clear hK K
      simp only [Act.put, List.setIfInBounds_toArray, List.set_cons_succ, List.set_cons_zero]
      replace hS := hS.pick [0, 1, 4, 2, 3] rfl (by decide)
      exact wpAnyH_listed (by kernel_rfl) (st_43 _ g1 g4 g5 hS  hHeld)
    refine hcons rfl rfl (fun K hK => ?_) ?_
    · clear hHeld
      refine owp_bslice1 (vs := [.int .u8 c.side]) hS rfl rfl (by rfl) (by decide) ?_
      clear hS; intro g2 _ hS; try simp only [List.cons_append, List.nil_append, List.append_nil, List.set_cons_zero, List.set_cons_succ] at hS
      rw [← Hside.out] at hS
      refine hK.out _ _ ⟨⟨(hS.get 1 rfl).cell 0 H0.out, (hS.get 1 rfl).cell 1 H1.out, (hS.get 1 rfl).cell 2 H2.out, (hS.get 1 rfl).cell 35 H35.out⟩, (hS.get 1 rfl).range 3 32 Hh.out⟩ (fun hHeld => ?_)
      clear hK K
      simp only [Act.put, List.setIfInBounds_toArray, List.set_cons_succ, List.set_cons_zero]
      replace hS := hS.pick [0, 1, 4, 2, 3] rfl (by decide)
      exact wpAnyH_listed (by kernel_rfl) (st_51 _ g2 g4 g5 hS  hHeld)
    refine hcons rfl rfl (fun K hK => ?_) ?_
    · clear hHeld
      refine owp_bslice1 (vs := [.int .u64 c.amount]) hS rfl rfl (by rfl) (by decide) ?_
      clear hS; intro g3 _ hS; try simp only [List.cons_append, List.nil_append, List.append_nil, List.set_cons_zero, List.set_cons_succ] at hS
      refine hK.out _ _ ⟨⟨(hS.get 1 rfl).cell 0 H0.out, (hS.get 1 rfl).cell 1 H1.out, (hS.get 1 rfl).cell 2 H2.out, (hS.get 1 rfl).cell 35 H35.out⟩, (hS.get 1 rfl).range 3 32 Hh.out⟩ (fun hHeld => ?_)
      clear hK K
      simp only [Act.put, List.setIfInBounds_toArray, List.set_cons_succ, List.set_cons_zero]
      replace hS := hS.pick [0, 1, 4, 2, 3] rfl (by decide)
      exact wpAnyH_listed (by kernel_rfl) (st_55 _ g3 g4 g5 hS  hHeld)
    exact AllReadyH.nil
  have st_60 : ∀ (w' : World) (g4 : Nat) (hS : St w (keys [x]) w' [x, some (gs, cs, 86), some (g4, bs c.hash, 50)])  (hHeld : (fun w' => (w'.cell? ⟨gs, 0, none⟩ = some (.int .u64 c.id) ∧ w'.cell? ⟨gs, 1, none⟩ = some (.int .i64 c.side) ∧ w'.cell? ⟨gs, 2, none⟩ = some (.int .u64 c.amount) ∧ w'.cell? ⟨gs, 35, none⟩ = some (.int .u64 c.expiry)) ∧ CellsAt w' ⟨gs, 3, none⟩ (bs c.hash)) w'), wpAnyH Try.prog Region.Mode.any ops61 Q (fun w' => (w'.cell? ⟨gs, 0, none⟩ = some (.int .u64 c.id) ∧ w'.cell? ⟨gs, 1, none⟩ = some (.int .i64 c.side) ∧ w'.cell? ⟨gs, 2, none⟩ = some (.int .u64 c.amount) ∧ w'.cell? ⟨gs, 35, none⟩ = some (.int .u64 c.expiry)) ∧ CellsAt w' ⟨gs, 3, none⟩ (bs c.hash)) 10 #[true, true, true, false, false, true, true, true, false, false, true, true, false, false, true, true, true, false, true, true, false, false, false] ⟨#[.slice a0 l.length c0, .agg cs.toArray, undef, .pointer (some ⟨gs, 0, none⟩), .slice none 0 0, (.slice a0 l.length c0), (.pointer (some ⟨gs, 0, none⟩)), (.int .u64 c.id), undef, undef, (.pointer (some ⟨gs, 1, none⟩)), (.int .i64 c.side), (.int .u8 c.side), undef, undef, (.pointer (some ⟨gs, 2, none⟩)), (.int .u64 c.amount), undef, undef, (.pointer (some ⟨gs, 3, none⟩)), (.agg (bs c.hash).toArray), .slice (some ⟨g4, 0, none⟩) 1 1, undef, (.pointer (some ⟨gs, 35, none⟩)), (.int .u64 c.expiry), undef, undef], []⟩ w' := by
    intro w' g4 hS  hHeld
    refine wpAnyH_ready (rs := [3, 8, 12, 20]) (by kernel_rfl) (by simp) ?_
    refine hcons rfl rfl (fun K hK => ?_) ?_
    · clear hHeld
      refine owp_bslice1 (vs := [.int .u64 c.id]) hS rfl rfl (by rfl) (by decide) ?_
      clear hS; intro g1 _ hS; try simp only [List.cons_append, List.nil_append, List.append_nil, List.set_cons_zero, List.set_cons_succ] at hS
      refine hK.out _ _ ⟨⟨(hS.get 1 rfl).cell 0 H0.out, (hS.get 1 rfl).cell 1 H1.out, (hS.get 1 rfl).cell 2 H2.out, (hS.get 1 rfl).cell 35 H35.out⟩, (hS.get 1 rfl).range 3 32 Hh.out⟩ (fun hHeld => ?_)
      clear hK K
      simp only [Act.put, List.setIfInBounds_toArray, List.set_cons_succ, List.set_cons_zero]
      replace hS := hS.pick [0, 1, 3, 2] rfl (by decide)
      exact wpAnyH_listed (by kernel_rfl) (st_44 _ g1 g4 hS  hHeld)
    refine hcons rfl rfl (fun K hK => ?_) ?_
    · clear hHeld
      refine owp_bslice1 (vs := [.int .u8 c.side]) hS rfl rfl (by rfl) (by decide) ?_
      clear hS; intro g2 _ hS; try simp only [List.cons_append, List.nil_append, List.append_nil, List.set_cons_zero, List.set_cons_succ] at hS
      rw [← Hside.out] at hS
      refine hK.out _ _ ⟨⟨(hS.get 1 rfl).cell 0 H0.out, (hS.get 1 rfl).cell 1 H1.out, (hS.get 1 rfl).cell 2 H2.out, (hS.get 1 rfl).cell 35 H35.out⟩, (hS.get 1 rfl).range 3 32 Hh.out⟩ (fun hHeld => ?_)
      clear hK K
      simp only [Act.put, List.setIfInBounds_toArray, List.set_cons_succ, List.set_cons_zero]
      replace hS := hS.pick [0, 1, 3, 2] rfl (by decide)
      exact wpAnyH_listed (by kernel_rfl) (st_52 _ g2 g4 hS  hHeld)
    refine hcons rfl rfl (fun K hK => ?_) ?_
    · clear hHeld
      refine owp_bslice1 (vs := [.int .u64 c.amount]) hS rfl rfl (by rfl) (by decide) ?_
      clear hS; intro g3 _ hS; try simp only [List.cons_append, List.nil_append, List.append_nil, List.set_cons_zero, List.set_cons_succ] at hS
      refine hK.out _ _ ⟨⟨(hS.get 1 rfl).cell 0 H0.out, (hS.get 1 rfl).cell 1 H1.out, (hS.get 1 rfl).cell 2 H2.out, (hS.get 1 rfl).cell 35 H35.out⟩, (hS.get 1 rfl).range 3 32 Hh.out⟩ (fun hHeld => ?_)
      clear hK K
      simp only [Act.put, List.setIfInBounds_toArray, List.set_cons_succ, List.set_cons_zero]
      replace hS := hS.pick [0, 1, 3, 2] rfl (by decide)
      exact wpAnyH_listed (by kernel_rfl) (st_56 _ g3 g4 hS  hHeld)
    refine hcons rfl rfl (fun K hK => ?_) ?_
    · clear hHeld
      refine owp_bslice1 (vs := [.int .u64 c.expiry]) hS rfl rfl (by rfl) (by decide) ?_
      clear hS; intro g5 _ hS; try simp only [List.cons_append, List.nil_append, List.append_nil, List.set_cons_zero, List.set_cons_succ] at hS
      refine hK.out _ _ ⟨⟨(hS.get 1 rfl).cell 0 H0.out, (hS.get 1 rfl).cell 1 H1.out, (hS.get 1 rfl).cell 2 H2.out, (hS.get 1 rfl).cell 35 H35.out⟩, (hS.get 1 rfl).range 3 32 Hh.out⟩ (fun hHeld => ?_)
      clear hK K
      simp only [Act.put, List.setIfInBounds_toArray, List.set_cons_succ, List.set_cons_zero]
      exact wpAnyH_listed (by kernel_rfl) (st_59 _ g4 g5 hS  hHeld)
    exact AllReadyH.nil
  have st_61 : ∀ (w' : World) (g5 : Nat) (hS : St w (keys [x]) w' [x, some (gs, cs, 86), some (g5, [.int .u64 c.expiry], 27)])  (hHeld : (fun w' => (w'.cell? ⟨gs, 0, none⟩ = some (.int .u64 c.id) ∧ w'.cell? ⟨gs, 1, none⟩ = some (.int .i64 c.side) ∧ w'.cell? ⟨gs, 2, none⟩ = some (.int .u64 c.amount) ∧ w'.cell? ⟨gs, 35, none⟩ = some (.int .u64 c.expiry)) ∧ CellsAt w' ⟨gs, 3, none⟩ (bs c.hash)) w'), wpAnyH Try.prog Region.Mode.any ops61 Q (fun w' => (w'.cell? ⟨gs, 0, none⟩ = some (.int .u64 c.id) ∧ w'.cell? ⟨gs, 1, none⟩ = some (.int .i64 c.side) ∧ w'.cell? ⟨gs, 2, none⟩ = some (.int .u64 c.amount) ∧ w'.cell? ⟨gs, 35, none⟩ = some (.int .u64 c.expiry)) ∧ CellsAt w' ⟨gs, 3, none⟩ (bs c.hash)) 10 #[true, true, true, false, false, true, true, true, false, false, true, true, false, false, true, true, false, false, true, true, true, false, false] ⟨#[.slice a0 l.length c0, .agg cs.toArray, undef, .pointer (some ⟨gs, 0, none⟩), .slice none 0 0, (.slice a0 l.length c0), (.pointer (some ⟨gs, 0, none⟩)), (.int .u64 c.id), undef, undef, (.pointer (some ⟨gs, 1, none⟩)), (.int .i64 c.side), (.int .u8 c.side), undef, undef, (.pointer (some ⟨gs, 2, none⟩)), (.int .u64 c.amount), undef, undef, (.pointer (some ⟨gs, 3, none⟩)), (.agg (bs c.hash).toArray), undef, undef, (.pointer (some ⟨gs, 35, none⟩)), (.int .u64 c.expiry), .slice (some ⟨g5, 0, none⟩) 1 1, undef], []⟩ w' := by
    intro w' g5 hS  hHeld
    refine wpAnyH_ready (rs := [3, 8, 12, 16]) (by kernel_rfl) (by simp) ?_
    refine hcons rfl rfl (fun K hK => ?_) ?_
    · clear hHeld
      refine owp_bslice1 (vs := [.int .u64 c.id]) hS rfl rfl (by rfl) (by decide) ?_
      clear hS; intro g1 _ hS; try simp only [List.cons_append, List.nil_append, List.append_nil, List.set_cons_zero, List.set_cons_succ] at hS
      refine hK.out _ _ ⟨⟨(hS.get 1 rfl).cell 0 H0.out, (hS.get 1 rfl).cell 1 H1.out, (hS.get 1 rfl).cell 2 H2.out, (hS.get 1 rfl).cell 35 H35.out⟩, (hS.get 1 rfl).range 3 32 Hh.out⟩ (fun hHeld => ?_)
      clear hK K
      simp only [Act.put, List.setIfInBounds_toArray, List.set_cons_succ, List.set_cons_zero]
      replace hS := hS.pick [0, 1, 3, 2] rfl (by decide)
      exact wpAnyH_listed (by kernel_rfl) (st_45 _ g1 g5 hS  hHeld)
    refine hcons rfl rfl (fun K hK => ?_) ?_
    · clear hHeld
      refine owp_bslice1 (vs := [.int .u8 c.side]) hS rfl rfl (by rfl) (by decide) ?_
      clear hS; intro g2 _ hS; try simp only [List.cons_append, List.nil_append, List.append_nil, List.set_cons_zero, List.set_cons_succ] at hS
      rw [← Hside.out] at hS
      refine hK.out _ _ ⟨⟨(hS.get 1 rfl).cell 0 H0.out, (hS.get 1 rfl).cell 1 H1.out, (hS.get 1 rfl).cell 2 H2.out, (hS.get 1 rfl).cell 35 H35.out⟩, (hS.get 1 rfl).range 3 32 Hh.out⟩ (fun hHeld => ?_)
      clear hK K
      simp only [Act.put, List.setIfInBounds_toArray, List.set_cons_succ, List.set_cons_zero]
      replace hS := hS.pick [0, 1, 3, 2] rfl (by decide)
      exact wpAnyH_listed (by kernel_rfl) (st_53 _ g2 g5 hS  hHeld)
    refine hcons rfl rfl (fun K hK => ?_) ?_
    · clear hHeld
      refine owp_bslice1 (vs := [.int .u64 c.amount]) hS rfl rfl (by rfl) (by decide) ?_
      clear hS; intro g3 _ hS; try simp only [List.cons_append, List.nil_append, List.append_nil, List.set_cons_zero, List.set_cons_succ] at hS
      refine hK.out _ _ ⟨⟨(hS.get 1 rfl).cell 0 H0.out, (hS.get 1 rfl).cell 1 H1.out, (hS.get 1 rfl).cell 2 H2.out, (hS.get 1 rfl).cell 35 H35.out⟩, (hS.get 1 rfl).range 3 32 Hh.out⟩ (fun hHeld => ?_)
      clear hK K
      simp only [Act.put, List.setIfInBounds_toArray, List.set_cons_succ, List.set_cons_zero]
      replace hS := hS.pick [0, 1, 3, 2] rfl (by decide)
      exact wpAnyH_listed (by kernel_rfl) (st_57 _ g3 g5 hS  hHeld)
    refine hcons rfl rfl (fun K hK => ?_) ?_
    · clear hHeld
      refine owp_bslice1 (vs := bs c.hash) hS rfl rfl Hhash.out (by decide) ?_
      clear hS; intro g4 _ hS; try simp only [List.cons_append, List.nil_append, List.append_nil, List.set_cons_zero, List.set_cons_succ] at hS
      refine hK.out _ _ ⟨⟨(hS.get 1 rfl).cell 0 H0.out, (hS.get 1 rfl).cell 1 H1.out, (hS.get 1 rfl).cell 2 H2.out, (hS.get 1 rfl).cell 35 H35.out⟩, (hS.get 1 rfl).range 3 32 Hh.out⟩ (fun hHeld => ?_)
      clear hK K
      simp only [Act.put, List.setIfInBounds_toArray, List.set_cons_succ, List.set_cons_zero]
      replace hS := hS.pick [0, 1, 3, 2] rfl (by decide)
      exact wpAnyH_listed (by kernel_rfl) (st_59 _ g4 g5 hS  hHeld)
    exact AllReadyH.nil
  have st_62 : ∀ (w' : World)  (hS : St w (keys [x]) w' [x, some (gs, cs, 86)])  (hHeld : (fun w' => (w'.cell? ⟨gs, 0, none⟩ = some (.int .u64 c.id) ∧ w'.cell? ⟨gs, 1, none⟩ = some (.int .i64 c.side) ∧ w'.cell? ⟨gs, 2, none⟩ = some (.int .u64 c.amount) ∧ w'.cell? ⟨gs, 35, none⟩ = some (.int .u64 c.expiry)) ∧ CellsAt w' ⟨gs, 3, none⟩ (bs c.hash)) w'), wpAnyH Try.prog Region.Mode.any ops61 Q (fun w' => (w'.cell? ⟨gs, 0, none⟩ = some (.int .u64 c.id) ∧ w'.cell? ⟨gs, 1, none⟩ = some (.int .i64 c.side) ∧ w'.cell? ⟨gs, 2, none⟩ = some (.int .u64 c.amount) ∧ w'.cell? ⟨gs, 35, none⟩ = some (.int .u64 c.expiry)) ∧ CellsAt w' ⟨gs, 3, none⟩ (bs c.hash)) 11 #[true, true, true, false, false, true, true, true, false, false, true, true, false, false, true, true, false, false, true, true, false, false, false] ⟨#[.slice a0 l.length c0, .agg cs.toArray, undef, .pointer (some ⟨gs, 0, none⟩), .slice none 0 0, (.slice a0 l.length c0), (.pointer (some ⟨gs, 0, none⟩)), (.int .u64 c.id), undef, undef, (.pointer (some ⟨gs, 1, none⟩)), (.int .i64 c.side), (.int .u8 c.side), undef, undef, (.pointer (some ⟨gs, 2, none⟩)), (.int .u64 c.amount), undef, undef, (.pointer (some ⟨gs, 3, none⟩)), (.agg (bs c.hash).toArray), undef, undef, (.pointer (some ⟨gs, 35, none⟩)), (.int .u64 c.expiry), undef, undef], []⟩ w' := by
    intro w'  hS  hHeld
    refine wpAnyH_ready (rs := [3, 8, 12, 16, 20]) (by kernel_rfl) (by simp) ?_
    refine hcons rfl rfl (fun K hK => ?_) ?_
    · clear hHeld
      refine owp_bslice1 (vs := [.int .u64 c.id]) hS rfl rfl (by rfl) (by decide) ?_
      clear hS; intro g1 _ hS; try simp only [List.cons_append, List.nil_append, List.append_nil, List.set_cons_zero, List.set_cons_succ] at hS
      refine hK.out _ _ ⟨⟨(hS.get 1 rfl).cell 0 H0.out, (hS.get 1 rfl).cell 1 H1.out, (hS.get 1 rfl).cell 2 H2.out, (hS.get 1 rfl).cell 35 H35.out⟩, (hS.get 1 rfl).range 3 32 Hh.out⟩ (fun hHeld => ?_)
      clear hK K
      simp only [Act.put, List.setIfInBounds_toArray, List.set_cons_succ, List.set_cons_zero]
      exact wpAnyH_listed (by kernel_rfl) (st_46 _ g1 hS  hHeld)
    refine hcons rfl rfl (fun K hK => ?_) ?_
    · clear hHeld
      refine owp_bslice1 (vs := [.int .u8 c.side]) hS rfl rfl (by rfl) (by decide) ?_
      clear hS; intro g2 _ hS; try simp only [List.cons_append, List.nil_append, List.append_nil, List.set_cons_zero, List.set_cons_succ] at hS
      rw [← Hside.out] at hS
      refine hK.out _ _ ⟨⟨(hS.get 1 rfl).cell 0 H0.out, (hS.get 1 rfl).cell 1 H1.out, (hS.get 1 rfl).cell 2 H2.out, (hS.get 1 rfl).cell 35 H35.out⟩, (hS.get 1 rfl).range 3 32 Hh.out⟩ (fun hHeld => ?_)
      clear hK K
      simp only [Act.put, List.setIfInBounds_toArray, List.set_cons_succ, List.set_cons_zero]
      exact wpAnyH_listed (by kernel_rfl) (st_54 _ g2 hS  hHeld)
    refine hcons rfl rfl (fun K hK => ?_) ?_
    · clear hHeld
      refine owp_bslice1 (vs := [.int .u64 c.amount]) hS rfl rfl (by rfl) (by decide) ?_
      clear hS; intro g3 _ hS; try simp only [List.cons_append, List.nil_append, List.append_nil, List.set_cons_zero, List.set_cons_succ] at hS
      refine hK.out _ _ ⟨⟨(hS.get 1 rfl).cell 0 H0.out, (hS.get 1 rfl).cell 1 H1.out, (hS.get 1 rfl).cell 2 H2.out, (hS.get 1 rfl).cell 35 H35.out⟩, (hS.get 1 rfl).range 3 32 Hh.out⟩ (fun hHeld => ?_)
      clear hK K
      simp only [Act.put, List.setIfInBounds_toArray, List.set_cons_succ, List.set_cons_zero]
      exact wpAnyH_listed (by kernel_rfl) (st_58 _ g3 hS  hHeld)
    refine hcons rfl rfl (fun K hK => ?_) ?_
    · clear hHeld
      refine owp_bslice1 (vs := bs c.hash) hS rfl rfl Hhash.out (by decide) ?_
      clear hS; intro g4 _ hS; try simp only [List.cons_append, List.nil_append, List.append_nil, List.set_cons_zero, List.set_cons_succ] at hS
      refine hK.out _ _ ⟨⟨(hS.get 1 rfl).cell 0 H0.out, (hS.get 1 rfl).cell 1 H1.out, (hS.get 1 rfl).cell 2 H2.out, (hS.get 1 rfl).cell 35 H35.out⟩, (hS.get 1 rfl).range 3 32 Hh.out⟩ (fun hHeld => ?_)
      clear hK K
      simp only [Act.put, List.setIfInBounds_toArray, List.set_cons_succ, List.set_cons_zero]
      exact wpAnyH_listed (by kernel_rfl) (st_60 _ g4 hS  hHeld)
    refine hcons rfl rfl (fun K hK => ?_) ?_
    · clear hHeld
      refine owp_bslice1 (vs := [.int .u64 c.expiry]) hS rfl rfl (by rfl) (by decide) ?_
      clear hS; intro g5 _ hS; try simp only [List.cons_append, List.nil_append, List.append_nil, List.set_cons_zero, List.set_cons_succ] at hS
      refine hK.out _ _ ⟨⟨(hS.get 1 rfl).cell 0 H0.out, (hS.get 1 rfl).cell 1 H1.out, (hS.get 1 rfl).cell 2 H2.out, (hS.get 1 rfl).cell 35 H35.out⟩, (hS.get 1 rfl).range 3 32 Hh.out⟩ (fun hHeld => ?_)
      clear hK K
      simp only [Act.put, List.setIfInBounds_toArray, List.set_cons_succ, List.set_cons_zero]
      exact wpAnyH_listed (by kernel_rfl) (st_61 _ g5 hS  hHeld)
    exact AllReadyH.nil
  replace hS := hS.drew
  refine wp_region_held_drew (S := fun w' => (w'.cell? ⟨gs, 0, none⟩ = some (.int .u64 c.id) ∧ w'.cell? ⟨gs, 1, none⟩ = some (.int .i64 c.side) ∧ w'.cell? ⟨gs, 2, none⟩ = some (.int .u64 c.amount) ∧ w'.cell? ⟨gs, 35, none⟩ = some (.int .u64 c.expiry)) ∧ CellsAt w' ⟨gs, 3, none⟩ (bs c.hash)) (by kernel_rfl) ⟨⟨(hS.get 1 rfl).cell 0 H0.out, (hS.get 1 rfl).cell 1 H1.out, (hS.get 1 rfl).cell 2 H2.out, (hS.get 1 rfl).cell 35 H35.out⟩, (hS.get 1 rfl).range 3 32 Hh.out⟩ (fun hHeld => ?_)
  refine htake (i := 0) (v := (.slice a0 l.length c0)) rfl (by kernel_rfl) (by kernel_rfl) (by kernel_rfl) hP (Or.inl ⟨by rfl, by (intro w hSw; (try dsimp only at hSw); (try obtain ⟨⟨h1, h2, h3, h4⟩, _⟩ := hSw); go_simp; try with_reducible rfl)⟩) (by assumption) ?_; simp only [Act.put, List.setIfInBounds_toArray, List.set_cons_succ, List.set_cons_zero]
  refine htake (i := 1) (v := (.pointer (some ⟨gs, 0, none⟩))) rfl (by kernel_rfl) (by kernel_rfl) (by kernel_rfl) hP (Or.inl ⟨by rfl, by (intro w hSw; (try dsimp only at hSw); (try obtain ⟨⟨h1, h2, h3, h4⟩, _⟩ := hSw); go_simp; try with_reducible rfl)⟩) (by assumption) ?_; simp only [Act.put, List.setIfInBounds_toArray, List.set_cons_succ, List.set_cons_zero]
  refine htake (i := 2) (v := (.int .u64 c.id)) rfl (by kernel_rfl) (by kernel_rfl) (by kernel_rfl) hP (Or.inl ⟨by rfl, by (intro w hSw; (try dsimp only at hSw); (try obtain ⟨⟨h1, h2, h3, h4⟩, _⟩ := hSw); go_simp; try with_reducible rfl)⟩) (by assumption) ?_; simp only [Act.put, List.setIfInBounds_toArray, List.set_cons_succ, List.set_cons_zero]
  refine htake (i := 5) (v := (.pointer (some ⟨gs, 1, none⟩))) rfl (by kernel_rfl) (by kernel_rfl) (by kernel_rfl) hP (Or.inl ⟨by rfl, by (intro w hSw; (try dsimp only at hSw); (try obtain ⟨⟨h1, h2, h3, h4⟩, _⟩ := hSw); go_simp; try with_reducible rfl)⟩) (by assumption) ?_; simp only [Act.put, List.setIfInBounds_toArray, List.set_cons_succ, List.set_cons_zero]
  refine htake (i := 6) (v := (.int .i64 c.side)) rfl (by kernel_rfl) (by kernel_rfl) (by kernel_rfl) hP (Or.inl ⟨by rfl, by (intro w hSw; (try dsimp only at hSw); (try obtain ⟨⟨h1, h2, h3, h4⟩, _⟩ := hSw); go_simp; try with_reducible rfl)⟩) (by assumption) ?_; simp only [Act.put, List.setIfInBounds_toArray, List.set_cons_succ, List.set_cons_zero]
  refine htake (i := 7) (v := (.int .u8 c.side)) rfl (by kernel_rfl) (by kernel_rfl) (by kernel_rfl) hP (Or.inl ⟨by rfl, by (intro w hSw; (try dsimp only at hSw); (try obtain ⟨⟨h1, h2, h3, h4⟩, _⟩ := hSw); go_simp; try with_reducible rfl)⟩) (by assumption) ?_; simp only [Act.put, List.setIfInBounds_toArray, List.set_cons_succ, List.set_cons_zero]
  refine htake (i := 10) (v := (.pointer (some ⟨gs, 2, none⟩))) rfl (by kernel_rfl) (by kernel_rfl) (by kernel_rfl) hP (Or.inl ⟨by rfl, by (intro w hSw; (try dsimp only at hSw); (try obtain ⟨⟨h1, h2, h3, h4⟩, _⟩ := hSw); go_simp; try with_reducible rfl)⟩) (by assumption) ?_; simp only [Act.put, List.setIfInBounds_toArray, List.set_cons_succ, List.set_cons_zero]
  refine htake (i := 11) (v := (.int .u64 c.amount)) rfl (by kernel_rfl) (by kernel_rfl) (by kernel_rfl) hP (Or.inl ⟨by rfl, by (intro w hSw; (try dsimp only at hSw); (try obtain ⟨⟨h1, h2, h3, h4⟩, _⟩ := hSw); go_simp; try with_reducible rfl)⟩) (by assumption) ?_; simp only [Act.put, List.setIfInBounds_toArray, List.set_cons_succ, List.set_cons_zero]
  refine htake (i := 14) (v := (.pointer (some ⟨gs, 3, none⟩))) rfl (by kernel_rfl) (by kernel_rfl) (by kernel_rfl) hP (Or.inl ⟨by rfl, by (intro w hSw; (try dsimp only at hSw); (try obtain ⟨⟨h1, h2, h3, h4⟩, _⟩ := hSw); go_simp; try with_reducible rfl)⟩) (by assumption) ?_; simp only [Act.put, List.setIfInBounds_toArray, List.set_cons_succ, List.set_cons_zero]
  refine htake (i := 15) (v := (.agg (bs c.hash).toArray)) rfl (by kernel_rfl) (by kernel_rfl) (by kernel_rfl) hP (Or.inl ⟨by rfl, yl_loadR rfl rfl Hhash.out (fun _ h => h.2)⟩) (by assumption) ?_; simp only [Act.put, List.setIfInBounds_toArray, List.set_cons_succ, List.set_cons_zero]
  refine htake (i := 18) (v := (.pointer (some ⟨gs, 35, none⟩))) rfl (by kernel_rfl) (by kernel_rfl) (by kernel_rfl) hP (Or.inl ⟨by rfl, by (intro w hSw; (try dsimp only at hSw); (try obtain ⟨⟨h1, h2, h3, h4⟩, _⟩ := hSw); go_simp; try with_reducible rfl)⟩) (by assumption) ?_; simp only [Act.put, List.setIfInBounds_toArray, List.set_cons_succ, List.set_cons_zero]
  refine htake (i := 19) (v := (.int .u64 c.expiry)) rfl (by kernel_rfl) (by kernel_rfl) (by kernel_rfl) hP (Or.inl ⟨by rfl, by (intro w hSw; (try dsimp only at hSw); (try obtain ⟨⟨h1, h2, h3, h4⟩, _⟩ := hSw); go_simp; try with_reducible rfl)⟩) (by assumption) ?_; simp only [Act.put, List.setIfInBounds_toArray, List.set_cons_succ, List.set_cons_zero]
  exact wpAnyH_listed (by kernel_rfl) (st_62 _ hS hHeld)

end Go.Proofs.Ytldmkafobbemjaa
