/-
  What the document's reader of bytes does: the raw bytes.
  What the document's reader of bytes does: numbers, what is left, the end, how many.
  What the document's reader of bytes does: what is left, the end, how many, a sum.
  What the document's reader of bytes does: a sum.
-/
import Derived.Test.YtldmkafobbemjaaA5
import Derived.Deep.QuietTactic
import Derived.BigQuiet
namespace Go.Proofs.Ytldmkafobbemjaa
set_option linter.unusedSimpArgs false
set_option linter.unusedVariables false
open Go Go.RowKit
set_option maxRecDepth 100000
set_option maxHeartbeats 2000000

abbrev rfBlk (b : Nat) (u : Value) (at' : Nat) (bad : Int) : Ent := some (b, [u, .int .i64 at', .int .i64 bad], 76)
theorem St.drewN {w0 w : World} {A : List Nat} {L : List Ent} (h : St w0 A w L) (n : Nat) : St w0 A (w.drewN n) L :=
  ⟨h.os, h.tape, h.output, h.size, h.keep, fun x hx => h.has x hx, h.nodup, h.fresh⟩
theorem owp_slice {P : Program} {Q : Exit → Act → World → Prop} {K : Act → World → Prop} {a : Act} {w : World} {o : Oper} {T e : TypeId} {x lo hi : Operand} (ho : o.op = .slice T x (some lo) (some hi) none)
    {size bytes : Nat} [hT : SliceOK P T e size bytes] {A : Option Addr} {len cap : Nat} (hx : a.eval x = .slice A len cap) {kl kh : IntKind} {l h : Int} (hlo : a.eval lo = .int kl l) (hhi : a.eval hi = .int kh h)
    (h0 : 0 ≤ l) (h1 : l ≤ h) (h2 : h ≤ cap) (hk : K (a.put o.dst (sliced A l.toNat h.toNat cap size)) w) : o.wp P a w K Q := by
  obtain ⟨hu, i, z, hi, hz, hs, -, -, -⟩ := hT
  have he : P.elem T = e := by simp [Program.elem, hu]
  have hu' : P.underlying T = some (.slice (P.elem T)) := by rw [he]; exact hu
  refine owp_val (w1 := w) (v := sliced A l.toNat h.toNat cap size) ?_ hk
  have hsz : (sizeOf e).run P w = .ok size w := by simp [sizeOf, typeInfo, hi, hs]
  unfold execOp
  simp only [ho, hx, hlo, hhi, Option.map_some, Option.map_none, Sem.run_bind, run_sliceAt_slice (t := T) (h := hu'), run_slice_lh (t := T) (ht := hu') (h0 := h0) (h1 := h1) (h2 := h2), he, hsz, Result.andThen_ok, Sem.run_pure]
theorem RowR.sub {w : World} {a0 : Option Addr} {c0 m : Nat} {xs : List Value} (h : RowR w 1 (.slice a0 m c0) m xs) (i n : Nat) (hn : i + n ≤ m) : RowR w 1 (.slice (if c0 = i then a0 else a0.map (fun x => x.add i)) n (c0 - i)) n ((xs.drop i).take n) := by
  obtain ⟨hl, hh⟩ := h
  have hlen : ((xs.drop i).take n).length = n := by rw [List.length_take, List.length_drop]; omega
  refine ⟨by rw [hlen, Nat.mul_one], ?_⟩
  rcases hh with ⟨e, rfl⟩ | ⟨ad, cap, e, hc, hs, hcells⟩
  · simp only [Value.slice.injEq] at e
    obtain ⟨rfl, -, rfl⟩ := e
    obtain rfl : i = 0 := by omega
    obtain rfl : n = 0 := by omega
    exact .inl ⟨by simp, rfl⟩
  · simp only [Value.slice.injEq] at e
    obtain ⟨rfl, -, rfl⟩ := e
    rcases hs with hs | hs
    · obtain rfl : i = 0 := by omega
      obtain rfl : n = 0 := by omega
      by_cases hci : c0 = 0
      · exact .inr ⟨ad, c0 - 0, by simp [hci], by omega, .inl rfl, fun j v hv => by simp at hv⟩
      · exact .inr ⟨ad.add 0, c0 - 0, by simp [hci], by omega, .inl rfl, fun j v hv => by simp at hv⟩
    obtain ⟨g, off, sp⟩ := ad
    subst hs
    have hn' : i + n - i = n := by omega
    by_cases hci : c0 = i
    · have h0 : n = 0 := by omega
      subst h0
      refine .inr ⟨⟨g, off, none⟩, c0 - i, by simp [hci], by omega, .inr rfl, ?_⟩
      intro j v hv
      simp at hv
    · refine .inr ⟨⟨g, off + i, none⟩, c0 - i, by simp [hci, add_zero], by omega, .inr rfl, ?_⟩
      intro j v hv
      rw [List.getElem?_take] at hv
      split at hv
      · rw [List.getElem?_drop] at hv
        have := hcells (i + j) v hv
        rw [add_zero] at this ⊢
        rwa [Nat.add_assoc]
      · cases hv
/-- The bytes that a reader reads, outside its block. -/
structure URd (w : World) (b : Nat) (u : Value) (l : List UInt8) : Prop where
  r : RowR w 1 u l.length (bs l)
  off : ∀ ad m c, u = .slice (some ad) m c → l = [] ∨ ad.block ≠ b
  le : l.length ≤ 1000000
theorem URd.st {w0 w : World} {b : Nat} {u : Value} {l : List UInt8} {L : List Ent} (h : URd w0 b u l) (hS : St w0 [b] w L) : URd w b u l :=
  ⟨by
    by_cases hl : l = []
    · subst hl
      refine ⟨h.r.1, ?_⟩
      rcases h.r.2 with e | ⟨ad, cap, e, hc, hs, _⟩
      · exact .inl e
      · exact .inr ⟨ad, cap, e, hc, hs, fun j v hv => by simp [bs] at hv⟩
    · exact h.r.st hS (fun ad m c e => by simpa using (h.off ad m c e).resolve_left hl), h.off, h.le⟩
/-- A reader in a block of one's own. -/
theorem URd.own {w0 w : World} {L : List Ent} {b : Nat} {u : Value} {l : List UInt8} {at' : Nat} {bad : Int} (hr : RowR w0 1 u l.length (bs l)) (hl : l.length ≤ 1000000) (hS : St w0 [] w (some (b, [u, .int .i64 at', .int .i64 bad], 76) :: L)) : URd w b u l := by
  refine ⟨hr.st0 hS, ?_, hl⟩
  rintro ad m c rfl
  by_cases h : l = []
  · exact .inl h
  · right
    obtain ⟨x, l', rfl⟩ := List.exists_cons_of_ne_nil h
    rcases hr.2 with ⟨e, _⟩ | ⟨ad', cap, e, hc, hs, hcells⟩
    · cases e
    · simp only [Value.slice.injEq, Option.some.injEq] at e
      obtain ⟨rfl, -, -⟩ := e
      have h1 := hcells 0 (B x) (by simp [bs])
      have hb : (ad.add 0).block = ad.block := by unfold Addr.add; split <;> rfl
      have h2 := World.block_lt_of_cell? w0 _ h1
      rw [hb] at h2
      have h3 := hS.fresh b (by simp [keys])
      rcases h3 with h3 | h3
      · cases h3
      · omega
def RAt (l : List UInt8) (at' : Nat) (s : PS) : Prop := at' ≤ l.length ∧ (s.bad = 0 → s.rest = l.drop at')
def RPost (w : World) (b : Nat) (u : Value) (l : List UInt8) (r : Value) (s' : PS) (e : Ending) (w' : World) : Prop :=
  e = .returned r ∧ ∃ at', St w [b] w' [rfBlk b u at' s'.bad] ∧ RAt l at' s'
theorem rf_start {w : World} {b : Nat} {u : Value} {at' : Nat} {bad : Int} (h : Holds w (rfBlk b u at' bad)) : St w [b] w [rfBlk b u at' bad] :=
  St.start w [rfBlk b u at' bad] (fun x hx => by simp at hx; subst hx; exact h) (by simp [keys])
theorem rf_cells {w0 w : World} {A : List Nat} {L : List Ent} {b : Nat} {u : Value} {at' : Nat} {bad : Int} (hS : St w0 A w (rfBlk b u at' bad :: L)) :
    w.cell? ⟨b, 0, none⟩ = some u ∧ w.cell? ⟨b, 1, none⟩ = some (.int .i64 at') ∧ w.cell? ⟨b, 2, none⟩ = some (.int .i64 bad) := by
  have h := hS.get 0 rfl _ _ _ rfl
  exact ⟨by rw [cell_row h]; rfl, by rw [cell_row h]; rfl, by rw [cell_row h]; rfl⟩

def RawPost (w : World) (b : Nat) (u : Value) (l : List UInt8) (n : Nat) (s : PS) (e : Ending) (w' : World) : Prop :=
  ∃ p at' x, e = .returned p ∧ St w [b] w' [rfBlk b u at' (s.cut n).2.bad, x] ∧ RAt l at' (s.cut n).2 ∧ RowV 5 1 p (s.cut n).1.length (bs (s.cut n).1) x

theorem raw_ok (n : Nat) (hn1 : 1 ≤ n) (hn : n ≤ 4096) (b : Nat) (u : Value) (l : List UInt8) (at' : Nat) (s : PS) (w : World) (hb : Holds w (rfBlk b u at' s.bad)) (hu : URd w b u l) (hat : RAt l at' s) :
    Calls Try.prog 69 #[.pointer (some ⟨b, 0, none⟩), .int .i64 n] w (RawPost w b u l n s) := by
  obtain ⟨rest, bad⟩ := s
  have hS := rf_start hb
  obtain ⟨hle, hrest⟩ := hat
  have hl := hu.le
  by_cases hbad : bad = 0
  · subst hbad
    obtain rfl : rest = l.drop at' := hrest rfl
    clear hrest
    obtain ⟨a0, c0, rfl⟩ := hu.r.isSl
    by_cases hlen : (l.drop at').length < n
    · have hcut : PS.cut n ⟨l.drop at', 0⟩ = ([], ⟨[], 9⟩) := by simp only [PS.cut]; rw [if_neg (by simp), if_pos hlen]
      have hlen' : (l.length : Int) - at' < n := by simp at hlen; omega
      have hw : IntKind.i64.wrap ((l.length : Int) - at') = (l.length : Int) - at' := IntWalk.i64_in _ (by omega)
      have Hcut := Lib.hid hcut
      clear hcut hlen
      go_enter Try.func69, Try.ntmps69
      go_upto_region 3 with (first | ((with_reducible show wpList _ _ _ (Oper.mk _ (Op.load _ _) _ _ _ _ :: _) _ _); refine wpl rfl ?_; refine (owp_load1 hS 0 rfl rfl rfl rfl ?_)))
      obtain ⟨h0, h1, h2⟩ := rf_cells hS
      go_quiet (fail)
      replace hS := hS.drewN nq
      clear h0 h1 h2 hw
      go_wp2_with (first | ((with_reducible show wpList _ _ _ (Oper.mk _ (Op.store _ _ _) _ _ _ _ :: _) _ _); refine wpl rfl ?_; refine (owp_store1 hS 0 rfl rfl rfl rfl rfl (by simp) rfl ?_); clear hS; intro _ hS; try simp [Act.eval] at hS))
      go_ret
      refine ⟨_, at', none, rfl, ?_, ?_, ?_⟩
      · rw [Hcut.out]; exact hS.addNone
      · rw [Hcut.out]; exact ⟨hle, fun h => by cases h⟩
      · rw [Hcut.out]; exact RowV.nil _ _
    · have hn2 : at' + n ≤ l.length := by simp at hlen; omega
      have hcut : PS.cut n ⟨l.drop at', 0⟩ = ((l.drop at').take n, ⟨l.drop (at' + n), 0⟩) := by
        simp only [PS.cut]; rw [if_neg (by simp), if_neg hlen, List.drop_drop]
      have hlen' : (n : Int) ≤ (l.length : Int) - at' := by omega
      have hw : IntKind.i64.wrap ((l.length : Int) - at') = (l.length : Int) - at' := IntWalk.i64_in _ (by omega)
      have Hcut := Lib.hid hcut
      have Hc0 := Lib.hid (show l.length ≤ c0 by
        rcases hu.r.2 with ⟨e, h⟩ | ⟨ad, cap, e, hc, _⟩
        · simp only [Value.slice.injEq] at e; omega
        · simp only [Value.slice.injEq] at e; omega)
      have Hw2 := Lib.hid (show IntKind.i64.wrap ((at' : Int) + n) = ((at' + n : Nat) : Int) by rw [IntWalk.i64_in _ (by omega)]; simp)
      have Hw3 := Lib.hid (show IntKind.i64.wrap (at' : Int) = (at' : Int) by rw [IntWalk.i64_in _ (by omega)])
      clear hcut hlen
      go_enter Try.func69, Try.ntmps69
      go_upto_region 3 with (first | ((with_reducible show wpList _ _ _ (Oper.mk _ (Op.load _ _) _ _ _ _ :: _) _ _); refine wpl rfl ?_; refine (owp_load1 hS 0 rfl rfl rfl rfl ?_)))
      obtain ⟨h0, h1, h2⟩ := rf_cells hS
      go_quiet (fail)
      replace hS := hS.drewN nq
      clear h0 h1 h2 hw
      have hw2 := Hw2.out
      go_wp2_with (first | ((with_reducible show wpList _ _ _ (Oper.mk _ (Op.load _ _) _ _ _ _ :: _) _ _); refine wpl rfl ?_; refine (owp_load1 hS 0 rfl rfl rfl rfl ?_)) | ((with_reducible show wpList _ _ _ (Oper.mk _ (Op.store _ _ _) _ _ _ _ :: _) _ _); refine wpl rfl ?_; refine (owp_store1 hS 0 rfl rfl rfl rfl rfl (by simp) rfl ?_); clear hS; intro _ hS; try simp [Act.eval] at hS))
      clear hw2
      have Hlen := Lib.hid (show ((l.drop at').take n).length = n by rw [List.length_take, List.length_drop]; omega)
      have hw3 := Hw3.out
      have hb3 : (at' : Int) + n ≤ c0 := by have := Hc0.out; omega
      have hb4 : max ((at' : Int) + n) 0 = (at' : Int) + n := by omega
      have hb5 : (at' : Int) ≤ (at' : Int) + n := by omega
      have hb6 : ((at' : Int) + n).toNat - at' = n := by omega
      have hb7 : (0 : Int) ≤ (at' : Int) + n := by omega
      obtain ⟨h0, h1, -⟩ := rf_cells hS
      have hA := hS.alloc [] 5
      simp only [List.cons_append, List.nil_append] at hA
      obtain ⟨h3, h4, -⟩ := rf_cells hA
      replace hS := hA.drew
      have Hu := Lib.hid hu
      have hu := hu.st hS
      have hcc := Hc0.out
      clear hcc
      go_region_law (first
        | (refine rstep rfl (owp_append hS 1 rfl rfl rfl (RowV.lit 5 1 _ 0 [] rfl (Nat.zero_le _)) rfl (RowR.sub (Hu.out.st hS).r at' n hn2) (by rw [bs_drop, bs_take]; exact bs_one _) (by unfold maxLen; omega) (by omega) ?_); clear hS; intro v' x' w2 hv' hS _; try simp only [List.cons_append, List.nil_append, List.append_nil, List.set_cons_zero, List.set_cons_succ] at hS))
      all_goals (
        go_wp2_with fail
        go_ret
        refine ⟨_, at' + n, x', rfl, ?_, ?_, ?_⟩
        · rw [Hcut.out]; exact hS
        · rw [Hcut.out]; exact ⟨hn2, fun _ => rfl⟩
        · rw [Hcut.out, Hlen.out, ← bs_take, ← bs_drop]; simpa using hv')
  · have hcut : PS.cut n ⟨rest, bad⟩ = ([], ⟨rest, bad⟩) := by simp [PS.cut, hbad]
    have Hcut := Lib.hid hcut
    clear hcut
    have hb1 : (bad != 0) = true := by simpa using hbad
    clear hbad
    go_enter Try.func69, Try.ntmps69
    go_wp2_with (first | ((with_reducible show wpList _ _ _ (Oper.mk _ (Op.load _ _) _ _ _ _ :: _) _ _); refine wpl rfl ?_; refine (owp_load1 hS 0 rfl rfl rfl rfl ?_)))
    go_ret
    refine ⟨_, at', none, rfl, ?_, ?_, ?_⟩
    · rw [Hcut.out]; exact hS.addNone
    · rw [Hcut.out]; exact ⟨hle, hrest⟩
    · rw [Hcut.out]; exact RowV.nil _ _

end Go.Proofs.Ytldmkafobbemjaa
namespace Go.Proofs.Ytldmkafobbemjaa
set_option linter.unusedSimpArgs false
set_option linter.unusedVariables false
open Go Go.RowKit
set_option maxRecDepth 100000
set_option maxHeartbeats 2000000

def RNumPost (w : World) (b : Nat) (u : Value) (l : List UInt8) (s : PS) (n : Nat) (e : Ending) (w' : World) : Prop :=
  RPost w b u l (.int .u64 (s.num n).1) (s.num n).2 e w'
theorem cells_row {w : World} {a : Option Addr} {c : Nat} {l : List UInt8} (h : RowR w 1 (.slice a l.length c) l.length (bs l)) :
    ∀ k x, l[k]? = some x → ∃ ad, a = some ad ∧ ad.spot = none ∧ w.cell? ⟨ad.block, ad.off + k, none⟩ = some (.int .u8 x.toNat) := by
  intro k x hk
  rcases h.2 with ⟨e, h0⟩ | ⟨ad, cap, e, hc, hs, hcells⟩
  · have : l = [] := List.eq_nil_of_length_eq_zero h0
    subst this
    simp at hk
  · simp only [Value.slice.injEq] at e
    obtain ⟨rfl, -, rfl⟩ := e
    have hkl := (List.getElem?_eq_some_iff.1 hk).1
    replace hs := hs.resolve_left (by omega)
    refine ⟨ad, rfl, hs, ?_⟩
    have := hcells k (.int .u8 x.toNat) (by simp [bs, hk, B])
    obtain ⟨g, off, sp⟩ := ad
    subst hs
    rwa [add_zero] at this

theorem rnum_ok (n : Nat) (hn1 : 1 ≤ n) (hn : n ≤ 8) (b : Nat) (u : Value) (l : List UInt8) (at' : Nat) (s : PS) (w : World) (hb : Holds w (rfBlk b u at' s.bad)) (hu : URd w b u l) (hat : RAt l at' s) :
    Calls Try.prog 42 #[.pointer (some ⟨b, 0, none⟩), .int .i64 n] w (RNumPost w b u l s n) := by
  go_enter Try.func42, Try.ntmps42
  go_wp2_with fail
  refine (raw_ok n hn1 (by omega) b u l at' s _ hb hu hat).mono ?_
  rintro e w1 ⟨p, at2, x, rfl, hS, hat2, hrow⟩
  have hlen : (s.cut n).1.length ≤ 8 := by
    unfold PS.cut
    split
    · simp
    · split
      · simp
      · simp; omega
  have hfin : ∀ w', St w [b] w' [rfBlk b u at2 (s.cut n).2.bad] → RNumPost w b u l s n (.returned (.int .u64 (be (s.cut n).1))) w' := fun w' h => ⟨rfl, at2, h, hat2⟩
  have hr := hrow.read (hS.get 1 rfl)
  replace hS := hS.pick (L' := [rfBlk b u at2 (s.cut n).2.bad]) [0] rfl (by decide)
  clear hrow
  generalize (s.cut n).1 = p' at *
  generalize (s.cut n).2 = s' at *
  obtain ⟨a, c, rfl⟩ := hr.isSl
  have Hcell := Lib.hid (cells_row hr)
  clear hr hat hat2 hu hb
  go_wp2_with fail
  go_loop [6, 7] (fun t i => ∃ k : Nat, k ≤ p'.length ∧ i = .int .i64 k ∧ t = .int .u64 (be (p'.take k))) (fun _ i => p'.length - (intOf i).toNat)
  case atStart => exact ⟨0, Nat.zero_le _, rfl, rfl⟩
  case round =>
    obtain ⟨k, hk, rfl, rfl⟩ := hrel
    by_cases hlt : k < p'.length
    · obtain ⟨ad, rfl, hspot, hc⟩ := Hcell.out k p'[k] (by simp)
      obtain ⟨g, off, spot⟩ := ad
      simp only at hspot hc
      subst hspot
      have hx : be (p'.take k) < 72057594037927936 := by
        have h1 := be_take_lt p' k hk
        have h2 : 256 ^ k ≤ 256 ^ 7 := Nat.pow_le_pow_right (by omega) (by omega)
        have h3 : (256 : Nat) ^ 7 = 72057594037927936 := by decide
        omega
      have hbt := p'[k].toNat_lt
      have Hnext := Lib.hid (show be (p'.take (k + 1)) = be (p'.take k) * 256 + p'[k].toNat by rw [List.take_succ_eq_append_getElem hlt, be_snoc])
      go_wp2_with fail
      go_round
      case rel =>
        refine ⟨k + 1, by omega, by go_num, ?_⟩
        rw [Hnext.out]
        go_num
      case measure => simp [intOf]; omega
    · have hkl : k = p'.length := by omega
      have ht : p'.take k = p' := by rw [hkl]; exact List.take_length
      rw [ht]
      clear hkl ht
      go_wp2_with fail
      go_ret
      exact hfin _ hS

end Go.Proofs.Ytldmkafobbemjaa
namespace Go.Proofs.Ytldmkafobbemjaa
set_option linter.unusedSimpArgs false
set_option linter.unusedVariables false
open Go Go.RowKit
set_option maxRecDepth 100000
set_option maxHeartbeats 2000000

def LeftPost (w : World) (b : Nat) (u : Value) (l : List UInt8) (at' : Nat) (s : PS) (e : Ending) (w' : World) : Prop :=
  e = .returned (.int .i64 ((if s.bad = 0 then s.rest.length else 0 : Nat) : Int)) ∧ St w [b] w' [rfBlk b u at' s.bad]
theorem rleft_ok (b : Nat) (u : Value) (l : List UInt8) (at' : Nat) (s : PS) (w : World) (hb : Holds w (rfBlk b u at' s.bad)) (hu : URd w b u l) (hat : RAt l at' s) :
    Calls Try.prog 21 #[.pointer (some ⟨b, 0, none⟩)] w (LeftPost w b u l at' s) := by
  obtain ⟨rest, bad⟩ := s
  have hS := rf_start hb
  obtain ⟨hle, hrest⟩ := hat
  have hl := hu.le
  by_cases hbad : bad = 0
  · subst hbad
    obtain rfl : rest = l.drop at' := hrest rfl
    clear hrest
    obtain ⟨a0, c0, rfl⟩ := hu.r.isSl
    have Hr := Lib.hid (show ((if (PS.mk (l.drop at') 0).bad = 0 then (PS.mk (l.drop at') 0).rest.length else 0 : Nat) : Int) = (l.length : Int) - at' by simp; omega)
    have hw : IntKind.i64.wrap ((l.length : Int) - at') = (l.length : Int) - at' := IntWalk.i64_in _ (by omega)
    go_enter Try.func21, Try.ntmps21
    go_upto_region 3 with (first | ((with_reducible show wpList _ _ _ (Oper.mk _ (Op.load _ _) _ _ _ _ :: _) _ _); refine wpl rfl ?_; refine (owp_load1 hS 0 rfl rfl rfl rfl ?_)))
    obtain ⟨h0, h1, h2⟩ := rf_cells hS
    go_quiet (fail)
    replace hS := hS.drewN nq
    clear h0 h1 h2
    go_wp2_with fail
    go_ret
    exact ⟨congrArg (fun z => Ending.returned (Value.int .i64 z)) Hr.out.symm, hS⟩
  · have hb1 : (bad != 0) = true := by simpa using hbad
    have Hr := Lib.hid (show ((if (PS.mk rest bad).bad = 0 then (PS.mk rest bad).rest.length else 0 : Nat) : Int) = 0 by simp [hbad])
    clear hbad
    go_enter Try.func21, Try.ntmps21
    go_wp2_with (first | ((with_reducible show wpList _ _ _ (Oper.mk _ (Op.load _ _) _ _ _ _ :: _) _ _); refine wpl rfl ?_; refine (owp_load1 hS 0 rfl rfl rfl rfl ?_)))
    go_ret
    exact ⟨congrArg (fun z => Ending.returned (Value.int .i64 z)) Hr.out.symm, hS⟩

theorem rend_ok (b : Nat) (u : Value) (l : List UInt8) (at' : Nat) (s : PS) (w : World) (hb : Holds w (rfBlk b u at' s.bad)) (hu : URd w b u l) (hat : RAt l at' s) :
    Calls Try.prog 49 #[.pointer (some ⟨b, 0, none⟩)] w (RPost w b u l (.int .i64 s.fin.bad) s.fin) := by
  have Hl := Lib.hid (rleft_ok b u l at' s w hb hu hat)
  by_cases hlt : s.bad = 0 ∧ 0 < s.rest.length
  · have hfin : s.fin = ⟨[], 10⟩ := by simp [PS.fin, PS.fail, hlt.1, hlt.2]
    have hn : (if s.bad = 0 then s.rest.length else 0 : Nat) = s.rest.length := by rw [if_pos hlt.1]
    have hpos : (0 : Int) < (s.rest.length : Int) := by omega
    have Hn := Lib.hid hn
    rw [hfin]
    clear hfin hn hlt
    go_enter Try.func49, Try.ntmps49
    go_wp2_with fail
    refine Hl.out.mono ?_
    rintro e w1 ⟨rfl, hS⟩
    rw [Hn.out]
    go_wp2_with (first | ((with_reducible show wpList _ _ _ (Oper.mk _ (Op.load _ _) _ _ _ _ :: _) _ _); refine wpl rfl ?_; refine (owp_load1 hS 0 rfl rfl rfl rfl ?_)) | ((with_reducible show wpList _ _ _ (Oper.mk _ (Op.store _ _ _) _ _ _ _ :: _) _ _); refine wpl rfl ?_; refine (owp_store1 hS 0 rfl rfl rfl rfl rfl (by simp) rfl ?_); clear hS; intro _ hS; try simp [Act.eval] at hS))
    go_ret
    exact ⟨rfl, at', hS, hat.1, fun h => by cases h⟩
  · have hfin : s.fin = s := by
      unfold PS.fin
      split
      · rename_i h
        unfold PS.fail
        rw [if_neg]
        intro hh
        exact hlt ⟨hh.1, h⟩
      · rfl
    have hn : (if s.bad = 0 then s.rest.length else 0 : Nat) = 0 := by
      by_cases h0 : s.bad = 0
      · rw [if_pos h0]
        have : ¬ 0 < s.rest.length := fun h => hlt ⟨h0, h⟩
        omega
      · rw [if_neg h0]
    have Hn := Lib.hid hn
    rw [hfin]
    clear hfin hn hlt
    go_enter Try.func49, Try.ntmps49
    go_wp2_with fail
    refine Hl.out.mono ?_
    rintro e w1 ⟨rfl, hS⟩
    rw [Hn.out]
    go_wp2_with (first | ((with_reducible show wpList _ _ _ (Oper.mk _ (Op.load _ _) _ _ _ _ :: _) _ _); refine wpl rfl ?_; refine (owp_load1 hS 0 rfl rfl rfl rfl ?_)) | ((with_reducible show wpList _ _ _ (Oper.mk _ (Op.store _ _ _) _ _ _ _ :: _) _ _); refine wpl rfl ?_; refine (owp_store1 hS 0 rfl rfl rfl rfl rfl (by simp) rfl ?_); clear hS; intro _ hS; try simp [Act.eval] at hS))
    go_ret
    exact ⟨rfl, at', hS, hat⟩

theorem rmany_ok (most : Nat) (hm : most ≤ 100) (b : Nat) (u : Value) (l : List UInt8) (at' : Nat) (s : PS) (w : World) (hb : Holds w (rfBlk b u at' s.bad)) (hu : URd w b u l) (hat : RAt l at' s) :
    Calls Try.prog 43 #[.pointer (some ⟨b, 0, none⟩), .int .i64 most] w (RPost w b u l (.int .i64 (s.many most).1) (s.many most).2) := by
  have h1 := num1_lt s
  have Hn := Lib.hid (rnum_ok 1 (by omega) (by omega) b u l at' s w hb hu hat)
  by_cases hlt : most < (s.num 1).1
  · have hmany : s.many most = (0, (s.num 1).2.fail 8) := by simp [PS.many, hlt]
    rw [hmany]
    clear hmany
    by_cases hbad : (s.num 1).2.bad = 0
    · have hf : (s.num 1).2.fail 8 = ⟨[], 8⟩ := by simp [PS.fail, hbad]
      have hb1 : ((s.num 1).2.bad == 0) = true := by simpa using hbad
      rw [hf]
      clear hf hbad
      have hlt' : (most : Int) < ((s.num 1).1 : Int) := by omega
      go_enter Try.func43, Try.ntmps43
      go_wp2_with fail
      refine Hn.out.mono ?_
      rintro e w1 ⟨rfl, at2, hS, hat2⟩
      go_wp2_with (first | ((with_reducible show wpList _ _ _ (Oper.mk _ (Op.load _ _) _ _ _ _ :: _) _ _); refine wpl rfl ?_; refine (owp_load1 hS 0 rfl rfl rfl rfl ?_)) | ((with_reducible show wpList _ _ _ (Oper.mk _ (Op.store _ _ _) _ _ _ _ :: _) _ _); refine wpl rfl ?_; refine (owp_store1 hS 0 rfl rfl rfl rfl rfl (by simp) rfl ?_); clear hS; intro _ hS; try simp [Act.eval] at hS))
      go_ret
      exact ⟨rfl, at2, hS, hat2.1, fun h => by cases h⟩
    · have hf : (s.num 1).2.fail 8 = (s.num 1).2 := by simp [PS.fail, hbad]
      have hb1 : ((s.num 1).2.bad == 0) = false := by simpa using hbad
      rw [hf]
      clear hf hbad
      have hlt' : (most : Int) < ((s.num 1).1 : Int) := by omega
      go_enter Try.func43, Try.ntmps43
      go_wp2_with fail
      refine Hn.out.mono ?_
      rintro e w1 ⟨rfl, at2, hS, hat2⟩
      go_wp2_with (first | ((with_reducible show wpList _ _ _ (Oper.mk _ (Op.load _ _) _ _ _ _ :: _) _ _); refine wpl rfl ?_; refine (owp_load1 hS 0 rfl rfl rfl rfl ?_)) | ((with_reducible show wpList _ _ _ (Oper.mk _ (Op.store _ _ _) _ _ _ _ :: _) _ _); refine wpl rfl ?_; refine (owp_store1 hS 0 rfl rfl rfl rfl rfl (by simp) rfl ?_); clear hS; intro _ hS; try simp [Act.eval] at hS))
      go_ret
      exact ⟨rfl, at2, hS, hat2⟩
  · have hmany : s.many most = s.num 1 := by simp [PS.many, hlt]
    have hle : ((s.num 1).1 : Int) ≤ (most : Int) := by omega
    rw [hmany]
    clear hmany hlt
    go_enter Try.func43, Try.ntmps43
    go_wp2_with fail
    refine Hn.out.mono ?_
    rintro e w1 ⟨rfl, at2, hS, hat2⟩
    go_wp2_with (first | ((with_reducible show wpList _ _ _ (Oper.mk _ (Op.load _ _) _ _ _ _ :: _) _ _); refine wpl rfl ?_; refine (owp_load1 hS 0 rfl rfl rfl rfl ?_)) | ((with_reducible show wpList _ _ _ (Oper.mk _ (Op.store _ _ _) _ _ _ _ :: _) _ _); refine wpl rfl ?_; refine (owp_store1 hS 0 rfl rfl rfl rfl rfl (by simp) rfl ?_); clear hS; intro _ hS; try simp [Act.eval] at hS))
    go_ret
    exact ⟨rfl, at2, hS, hat2⟩

end Go.Proofs.Ytldmkafobbemjaa
namespace Go.Proofs.Ytldmkafobbemjaa
set_option linter.unusedSimpArgs false
set_option linter.unusedVariables false
open Go Go.RowKit
set_option maxRecDepth 100000
set_option maxHeartbeats 2000000

theorem fill_set (p : List UInt8) (k : Nat) (h : k < p.length) (h32 : p.length ≤ 32) :
    (bs (p.take k) ++ bs (zb (32 - k))).set k (.int .u8 p[k].toNat) = bs (p.take (k + 1)) ++ bs (zb (32 - (k + 1))) := by
  have hl : (bs (p.take k)).length = k := by rw [bs_length, List.length_take]; omega
  have e : 32 - k = (32 - (k + 1)) + 1 := by omega
  rw [List.set_append, hl, if_neg (by omega), Nat.sub_self, e, List.take_succ_eq_append_getElem h, bs_append, List.append_assoc]
  rfl
theorem fill_end (p : List UInt8) : bs (p.take p.length) ++ bs (zb (32 - p.length)) = bs (pad 32 p) := by
  rw [List.take_length, pad, bs_append]
  rfl

theorem rsum_ok (b : Nat) (u : Value) (l : List UInt8) (at' : Nat) (s : PS) (w : World) (hb : Holds w (rfBlk b u at' s.bad)) (hu : URd w b u l) (hat : RAt l at' s) :
    Calls Try.prog 70 #[.pointer (some ⟨b, 0, none⟩)] w (RPost w b u l (.agg (bs s.sum.1).toArray) s.sum.2) := by
  have hS := rf_start hb
  go_enter Try.func70, Try.ntmps70
  go_wp2_with (first | ((with_reducible show wpList _ _ _ (Oper.mk (some 2) (Op.alloc _) _ _ _ _ :: _) _ _); refine wpl rfl ?_; refine (owp_allocAt hS 2 rfl rfl ?_); clear hS; intro gr _ hS; simp only [List.cons_append, List.nil_append] at hS) | ((with_reducible show wpList _ _ _ (Oper.mk (some 3) (Op.alloc _) _ _ _ _ :: _) _ _); refine wpl rfl ?_; refine (owp_allocAt hS 3 rfl rfl ?_); clear hS; intro gd _ hS; simp only [List.cons_append, List.nil_append] at hS))
  refine (raw_ok 32 (by omega) (by omega) b u l at' s _ (hS.get 0 rfl) (hu.st hS) hat).mono ?_
  rintro e w1 ⟨p, at2, x, rfl, hc, hat2, hrow⟩
  replace hS := hS.call1 0 rfl hc
  try simp only [List.cons_append, List.nil_append, List.append_nil, List.set_cons_zero, List.set_cons_succ] at hS
  clear hc hat
  have hlen : (s.cut 32).1.length ≤ 32 := by rcases cut_len 32 s with h | h <;> rw [h] <;> simp
  have hsum : s.sum = (pad 32 (s.cut 32).1, (s.cut 32).2) := rfl
  have Hsum := Lib.hid hsum
  clear hsum
  generalize (s.cut 32).1 = p' at *
  generalize (s.cut 32).2 = s' at *
  obtain ⟨a, c, rfl⟩ := hrow.isSl
  have Hrow := Lib.hid hrow
  clear hrow
  go_wp2_with fail
  go_loopw [5] (fun i wr => ∃ k : Nat, k ≤ p'.length ∧ i = .int .i64 k ∧
    St w [b] wr [rfBlk b u at2 s'.bad, some (gr, bs (zb 32), 22), some (gd, bs (p'.take k) ++ bs (zb (32 - k)), 22), x]) (fun i _ => p'.length - (intOf i).toNat)
  case atStart => exact ⟨0, Nat.zero_le _, rfl, hS⟩
  case round =>
    clear hS
    obtain ⟨k, hk, rfl, hS⟩ := hrel
    by_cases hlt : k < p'.length
    · obtain ⟨ad, rfl, hspot, hc⟩ := cells_row (Hrow.out.read (hS.get 3 rfl)) k p'[k] (by simp)
      obtain ⟨g, off, spot⟩ := ad
      simp only at hspot hc
      subst hspot
      have Hset := Lib.hid (fill_set p' k hlt hlen)
      have Hl := Lib.hid (show k < (bs (p'.take k) ++ bs (zb (32 - k))).length by rw [List.length_append, bs_length, bs_length, List.length_take, zb_length]; omega)
      have hk32 : (k : Int) < 32 := by omega
      go_wp2_with (first | ((with_reducible show wpList _ _ _ (Oper.mk _ (Op.store _ _ _) _ _ _ _ :: _) _ _); refine wpl rfl ?_; refine owp_store1 hS 2 rfl rfl rfl rfl rfl Hl.out Hset.out ?_; clear hS; intro _ hS; try simp only [List.cons_append, List.nil_append, List.append_nil, List.set_cons_zero, List.set_cons_succ] at hS))
      go_roundw
      case rel => exact ⟨k + 1, by omega, by go_num, hS⟩
      case measure => simp [intOf]; omega
    · have hkl : k = p'.length := by omega
      subst hkl
      rw [fill_end] at hS
      have hl1 : (bs (pad 32 p')).length = 32 := by rw [bs_length, pad, List.length_append, List.length_replicate]; omega
      have Hl1 := Lib.hid hl1
      clear hl1 hlt hk
      go_wp2_with (first | ((with_reducible show wpList _ _ _ (Oper.mk _ (Op.load _ _) _ _ _ _ :: _) _ _); refine wpl rfl ?_; refine (owp_loadW hS 2 rfl rfl rfl (Hl1.out) ?_)) | ((with_reducible show wpList _ _ _ (Oper.mk _ (Op.store _ _ _) _ _ _ _ :: _) _ _); refine wpl rfl ?_; refine (owp_storeW hS 1 rfl rfl rfl rfl (Hl1.out) (zb32_len) (bs_one _) ?_); clear hS; intro _ hS; try simp only [List.cons_append, List.nil_append, List.append_nil, List.set_cons_zero, List.set_cons_succ] at hS))
      (try simp only [Exit.inBlock, Exit.then]); refine bodyPost_ret (res_cell rfl rfl hS 1 rfl (Hl1.out)) rfl ?_
      show RPost w b u l (.agg (bs s.sum.1).toArray) s.sum.2 _ _
      rw [Hsum.out]
      exact ⟨rfl, at2, hS.pick [0] rfl (by decide), hat2⟩

end Go.Proofs.Ytldmkafobbemjaa
