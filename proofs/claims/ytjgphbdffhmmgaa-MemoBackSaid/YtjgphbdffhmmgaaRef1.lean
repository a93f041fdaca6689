/-
  What the document's reader of bytes does: the raw bytes.
-/
import Derived.Test.YtjgphbdffhmmgaaIn12
import Derived.Deep.QuietTactic
import Derived.BigQuiet
namespace Go.Proofs.Ytjgphbdffhmmgaa
set_option linter.unusedSimpArgs false
set_option linter.unusedVariables false
open Go Go.RowKit
set_option maxRecDepth 100000
set_option maxHeartbeats 2000000

abbrev rfBlk (b : Nat) (u : Value) (at' : Nat) (bad : Int) : Ent := some (b, [u, .int .i64 at', .int .i64 bad], 67)
theorem St.drewN {w0 w : World} {A : List Nat} {L : List Ent} (h : St w0 A w L) (n : Nat) : St w0 A (w.drewN n) L :=
  ⟨h.os, h.tape, h.output, h.size, h.keep, fun x hx => h.has x hx, h.nodup, h.fresh⟩
theorem owp_slice {P : Program} {Q : Exit → Act → World → Prop} {K : Act → World → Prop} {a : Act} {w : World} {o : Oper} {T e : TypeId} {x lo hi : Operand} (ho : o.op = .slice T x (some lo) (some hi) none)
    {size bytes : Nat} [hT : SliceOK P T e size bytes] {A : Option Addr} {len cap : Nat} (hx : a.eval x = .slice A len cap) {kl kh : IntKind} {l h : Int} (hlo : a.eval lo = .int kl l) (hhi : a.eval hi = .int kh h)
    (h0 : 0 ≤ l) (h1 : l ≤ h) (h2 : h ≤ cap) (hk : K (a.put o.dst (sliced A l.toNat h.toNat cap size)) w) : o.wp P a w K Q := by
  obtain ⟨hu, i, z, hi, hz, hs, -, -, -⟩ := hT
  have he : P.elem T = e := by simp [Program.elem, hu]
  have hu' : P.underlying T = some (.slice (P.elem T)) := by rw [he]; exact hu
  refine owp_val (w1 := w) (v := sliced A l.toNat h.toNat cap size) ?_ hk
  have hsz : (sizeOf e).run P w = .ok size w := by simp [sizeOf, typeInfo, hi, hs]
  unfold execOp
  simp only [ho, hx, hlo, hhi, Option.map_some, Option.map_none, Sem.run_bind, run_sliceAt_slice (t := T) (h := hu'), run_slice_lh (t := T) (ht := hu') (h0 := h0) (h1 := h1) (h2 := h2), he, hsz, Result.andThen_ok, Sem.run_pure]
theorem RowR.sub {w : World} {a0 : Option Addr} {c0 m : Nat} {xs : List Value} (h : RowR w 1 (.slice a0 m c0) m xs) (i n : Nat) (hn : i + n ≤ m) : RowR w 1 (.slice (if c0 = i then a0 else a0.map (fun x => x.add i)) n (c0 - i)) n ((xs.drop i).take n) := by
  obtain ⟨hl, hh⟩ := h
  have hlen : ((xs.drop i).take n).length = n := by rw [List.length_take, List.length_drop]; omega
  refine ⟨by rw [hlen, Nat.mul_one], ?_⟩
  rcases hh with ⟨e, rfl⟩ | ⟨ad, cap, e, hc, hs, hcells⟩
  · simp only [Value.slice.injEq] at e
    obtain ⟨rfl, -, rfl⟩ := e
    obtain rfl : i = 0 := by omega
    obtain rfl : n = 0 := by omega
    exact .inl ⟨by simp, rfl⟩
  · simp only [Value.slice.injEq] at e
    obtain ⟨rfl, -, rfl⟩ := e
    rcases hs with hs | hs
    · obtain rfl : i = 0 := by omega
      obtain rfl : n = 0 := by omega
      by_cases hci : c0 = 0
      · exact .inr ⟨ad, c0 - 0, by simp [hci], by omega, .inl rfl, fun j v hv => by simp at hv⟩
      · exact .inr ⟨ad.add 0, c0 - 0, by simp [hci], by omega, .inl rfl, fun j v hv => by simp at hv⟩
    obtain ⟨g, off, sp⟩ := ad
    subst hs
    have hn' : i + n - i = n := by omega
    by_cases hci : c0 = i
    · have h0 : n = 0 := by omega
      subst h0
      refine .inr ⟨⟨g, off, none⟩, c0 - i, by simp [hci], by omega, .inr rfl, ?_⟩
      intro j v hv
      simp at hv
    · refine .inr ⟨⟨g, off + i, none⟩, c0 - i, by simp [hci, add_zero], by omega, .inr rfl, ?_⟩
      intro j v hv
      rw [List.getElem?_take] at hv
      split at hv
      · rw [List.getElem?_drop] at hv
        have := hcells (i + j) v hv
        rw [add_zero] at this ⊢
        rwa [Nat.add_assoc]
      · cases hv
/-- The bytes that a reader reads, outside its block. -/
structure URd (w : World) (b : Nat) (u : Value) (l : List UInt8) : Prop where
  r : RowR w 1 u l.length (bs l)
  off : ∀ ad m c, u = .slice (some ad) m c → l = [] ∨ ad.block ≠ b
  le : l.length ≤ 1000000
theorem URd.st {w0 w : World} {b : Nat} {u : Value} {l : List UInt8} {L : List Ent} (h : URd w0 b u l) (hS : St w0 [b] w L) : URd w b u l :=
  ⟨by
    by_cases hl : l = []
    · subst hl
      refine ⟨h.r.1, ?_⟩
      rcases h.r.2 with e | ⟨ad, cap, e, hc, hs, _⟩
      · exact .inl e
      · exact .inr ⟨ad, cap, e, hc, hs, fun j v hv => by simp [bs] at hv⟩
    · exact h.r.st hS (fun ad m c e => by simpa using (h.off ad m c e).resolve_left hl), h.off, h.le⟩
/-- A reader in a block of one's own. -/
theorem URd.own {w0 w : World} {L : List Ent} {b : Nat} {u : Value} {l : List UInt8} {at' : Nat} {bad : Int} (hr : RowR w0 1 u l.length (bs l)) (hl : l.length ≤ 1000000) (hS : St w0 [] w (some (b, [u, .int .i64 at', .int .i64 bad], 67) :: L)) : URd w b u l := by
  refine ⟨hr.st0 hS, ?_, hl⟩
  rintro ad m c rfl
  by_cases h : l = []
  · exact .inl h
  · right
    obtain ⟨x, l', rfl⟩ := List.exists_cons_of_ne_nil h
    rcases hr.2 with ⟨e, _⟩ | ⟨ad', cap, e, hc, hs, hcells⟩
    · cases e
    · simp only [Value.slice.injEq, Option.some.injEq] at e
      obtain ⟨rfl, -, -⟩ := e
      have h1 := hcells 0 (B x) (by simp [bs])
      have hb : (ad.add 0).block = ad.block := by unfold Addr.add; split <;> rfl
      have h2 := World.block_lt_of_cell? w0 _ h1
      rw [hb] at h2
      have h3 := hS.fresh b (by simp [keys])
      rcases h3 with h3 | h3
      · cases h3
      · omega
def RAt (l : List UInt8) (at' : Nat) (s : PS) : Prop := at' ≤ l.length ∧ (s.bad = 0 → s.rest = l.drop at')
def RPost (w : World) (b : Nat) (u : Value) (l : List UInt8) (r : Value) (s' : PS) (e : Ending) (w' : World) : Prop :=
  e = .returned r ∧ ∃ at', St w [b] w' [rfBlk b u at' s'.bad] ∧ RAt l at' s'
theorem rf_start {w : World} {b : Nat} {u : Value} {at' : Nat} {bad : Int} (h : Holds w (rfBlk b u at' bad)) : St w [b] w [rfBlk b u at' bad] :=
  St.start w [rfBlk b u at' bad] (fun x hx => by simp at hx; subst hx; exact h) (by simp [keys])
theorem rf_cells {w0 w : World} {A : List Nat} {L : List Ent} {b : Nat} {u : Value} {at' : Nat} {bad : Int} (hS : St w0 A w (rfBlk b u at' bad :: L)) :
    w.cell? ⟨b, 0, none⟩ = some u ∧ w.cell? ⟨b, 1, none⟩ = some (.int .i64 at') ∧ w.cell? ⟨b, 2, none⟩ = some (.int .i64 bad) := by
  have h := hS.get 0 rfl _ _ _ rfl
  exact ⟨by rw [cell_row h]; rfl, by rw [cell_row h]; rfl, by rw [cell_row h]; rfl⟩

def RawPost (w : World) (b : Nat) (u : Value) (l : List UInt8) (n : Nat) (s : PS) (e : Ending) (w' : World) : Prop :=
  ∃ p at' x, e = .returned p ∧ St w [b] w' [rfBlk b u at' (s.cut n).2.bad, x] ∧ RAt l at' (s.cut n).2 ∧ RowV 5 1 p (s.cut n).1.length (bs (s.cut n).1) x

theorem raw_ok (n : Nat) (hn1 : 1 ≤ n) (hn : n ≤ 4096) (b : Nat) (u : Value) (l : List UInt8) (at' : Nat) (s : PS) (w : World) (hb : Holds w (rfBlk b u at' s.bad)) (hu : URd w b u l) (hat : RAt l at' s) :
    Calls Try.prog 50 #[.pointer (some ⟨b, 0, none⟩), .int .i64 n] w (RawPost w b u l n s) := by
  obtain ⟨rest, bad⟩ := s
  have hS := rf_start hb
  obtain ⟨hle, hrest⟩ := hat
  have hl := hu.le
  by_cases hbad : bad = 0
  · subst hbad
    obtain rfl : rest = l.drop at' := hrest rfl
    clear hrest
    obtain ⟨a0, c0, rfl⟩ := hu.r.isSl
    by_cases hlen : (l.drop at').length < n
    · have hcut : PS.cut n ⟨l.drop at', 0⟩ = ([], ⟨[], 9⟩) := by simp only [PS.cut]; rw [if_neg (by simp), if_pos hlen]
      have hlen' : (l.length : Int) - at' < n := by simp at hlen; omega
      have hw : IntKind.i64.wrap ((l.length : Int) - at') = (l.length : Int) - at' := IntWalk.i64_in _ (by omega)
      have Hcut := Lib.hid hcut
      clear hcut hlen
      go_enter Try.func50, Try.ntmps50
      go_upto_region 3 with (first | ((with_reducible show wpList _ _ _ (Oper.mk _ (Op.load _ _) _ _ _ _ :: _) _ _); refine wpl rfl ?_; refine (owp_load1 hS 0 rfl rfl rfl rfl ?_)))
      obtain ⟨h0, h1, h2⟩ := rf_cells hS
      go_quiet (fail)
      replace hS := hS.drewN nq
      clear h0 h1 h2 hw
      go_wp2_with (first | ((with_reducible show wpList _ _ _ (Oper.mk _ (Op.store _ _ _) _ _ _ _ :: _) _ _); refine wpl rfl ?_; refine (owp_store1 hS 0 rfl rfl rfl rfl rfl (by simp) rfl ?_); clear hS; intro _ hS; try simp [Act.eval] at hS))
      go_ret
      refine ⟨_, at', none, rfl, ?_, ?_, ?_⟩
      · rw [Hcut.out]; exact hS.addNone
      · rw [Hcut.out]; exact ⟨hle, fun h => by cases h⟩
      · rw [Hcut.out]; exact RowV.nil _ _
    · have hn2 : at' + n ≤ l.length := by simp at hlen; omega
      have hcut : PS.cut n ⟨l.drop at', 0⟩ = ((l.drop at').take n, ⟨l.drop (at' + n), 0⟩) := by
        simp only [PS.cut]; rw [if_neg (by simp), if_neg hlen, List.drop_drop]
      have hlen' : (n : Int) ≤ (l.length : Int) - at' := by omega
      have hw : IntKind.i64.wrap ((l.length : Int) - at') = (l.length : Int) - at' := IntWalk.i64_in _ (by omega)
      have Hcut := Lib.hid hcut
      have Hc0 := Lib.hid (show l.length ≤ c0 by
        rcases hu.r.2 with ⟨e, h⟩ | ⟨ad, cap, e, hc, _⟩
        · simp only [Value.slice.injEq] at e; omega
        · simp only [Value.slice.injEq] at e; omega)
      have Hw2 := Lib.hid (show IntKind.i64.wrap ((at' : Int) + n) = ((at' + n : Nat) : Int) by rw [IntWalk.i64_in _ (by omega)]; simp)
      have Hw3 := Lib.hid (show IntKind.i64.wrap (at' : Int) = (at' : Int) by rw [IntWalk.i64_in _ (by omega)])
      clear hcut hlen
      go_enter Try.func50, Try.ntmps50
      go_upto_region 3 with (first | ((with_reducible show wpList _ _ _ (Oper.mk _ (Op.load _ _) _ _ _ _ :: _) _ _); refine wpl rfl ?_; refine (owp_load1 hS 0 rfl rfl rfl rfl ?_)))
      obtain ⟨h0, h1, h2⟩ := rf_cells hS
      go_quiet (fail)
      replace hS := hS.drewN nq
      clear h0 h1 h2 hw
      have hw2 := Hw2.out
      go_wp2_with (first | ((with_reducible show wpList _ _ _ (Oper.mk _ (Op.load _ _) _ _ _ _ :: _) _ _); refine wpl rfl ?_; refine (owp_load1 hS 0 rfl rfl rfl rfl ?_)) | ((with_reducible show wpList _ _ _ (Oper.mk _ (Op.store _ _ _) _ _ _ _ :: _) _ _); refine wpl rfl ?_; refine (owp_store1 hS 0 rfl rfl rfl rfl rfl (by simp) rfl ?_); clear hS; intro _ hS; try simp [Act.eval] at hS))
      clear hw2
      have Hlen := Lib.hid (show ((l.drop at').take n).length = n by rw [List.length_take, List.length_drop]; omega)
      have hw3 := Hw3.out
      have hb3 : (at' : Int) + n ≤ c0 := by have := Hc0.out; omega
      have hb4 : max ((at' : Int) + n) 0 = (at' : Int) + n := by omega
      have hb5 : (at' : Int) ≤ (at' : Int) + n := by omega
      have hb6 : ((at' : Int) + n).toNat - at' = n := by omega
      have hb7 : (0 : Int) ≤ (at' : Int) + n := by omega
      obtain ⟨h0, h1, -⟩ := rf_cells hS
      have hA := hS.alloc [] 5
      simp only [List.cons_append, List.nil_append] at hA
      obtain ⟨h3, h4, -⟩ := rf_cells hA
      replace hS := hA.drew
      have Hu := Lib.hid hu
      have hu := hu.st hS
      have hcc := Hc0.out
      clear hcc
      go_region_law (first
        | (refine rstep rfl (owp_append hS 1 rfl rfl rfl (RowV.lit 5 1 _ 0 [] rfl (Nat.zero_le _)) rfl (RowR.sub (Hu.out.st hS).r at' n hn2) (by rw [bs_drop, bs_take]; exact bs_one _) (by unfold maxLen; omega) (by omega) ?_); clear hS; intro v' x' w2 hv' hS _; try simp only [List.cons_append, List.nil_append, List.append_nil, List.set_cons_zero, List.set_cons_succ] at hS))
      all_goals (
        go_wp2_with fail
        go_ret
        refine ⟨_, at' + n, x', rfl, ?_, ?_, ?_⟩
        · rw [Hcut.out]; exact hS
        · rw [Hcut.out]; exact ⟨hn2, fun _ => rfl⟩
        · rw [Hcut.out, Hlen.out, ← bs_take, ← bs_drop]; simpa using hv')
  · have hcut : PS.cut n ⟨rest, bad⟩ = ([], ⟨rest, bad⟩) := by simp [PS.cut, hbad]
    have Hcut := Lib.hid hcut
    clear hcut
    have hb1 : (bad != 0) = true := by simpa using hbad
    clear hbad
    go_enter Try.func50, Try.ntmps50
    go_wp2_with (first | ((with_reducible show wpList _ _ _ (Oper.mk _ (Op.load _ _) _ _ _ _ :: _) _ _); refine wpl rfl ?_; refine (owp_load1 hS 0 rfl rfl rfl rfl ?_)))
    go_ret
    refine ⟨_, at', none, rfl, ?_, ?_, ?_⟩
    · rw [Hcut.out]; exact hS.addNone
    · rw [Hcut.out]; exact ⟨hle, hrest⟩
    · rw [Hcut.out]; exact RowV.nil _ _

end Go.Proofs.Ytjgphbdffhmmgaa
