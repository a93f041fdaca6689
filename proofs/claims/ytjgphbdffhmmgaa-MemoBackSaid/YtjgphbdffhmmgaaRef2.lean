/-
  What the document's reader of bytes does: numbers, what is left, the end, how many.
-/
import Derived.Test.YtjgphbdffhmmgaaRef1
namespace Go.Proofs.Ytjgphbdffhmmgaa
set_option linter.unusedSimpArgs false
set_option linter.unusedVariables false
open Go Go.RowKit
set_option maxRecDepth 100000
set_option maxHeartbeats 2000000

def RNumPost (w : World) (b : Nat) (u : Value) (l : List UInt8) (s : PS) (n : Nat) (e : Ending) (w' : World) : Prop :=
  RPost w b u l (.int .u64 (s.num n).1) (s.num n).2 e w'
theorem cells_row {w : World} {a : Option Addr} {c : Nat} {l : List UInt8} (h : RowR w 1 (.slice a l.length c) l.length (bs l)) :
    ∀ k x, l[k]? = some x → ∃ ad, a = some ad ∧ ad.spot = none ∧ w.cell? ⟨ad.block, ad.off + k, none⟩ = some (.int .u8 x.toNat) := by
  intro k x hk
  rcases h.2 with ⟨e, h0⟩ | ⟨ad, cap, e, hc, hs, hcells⟩
  · have : l = [] := List.eq_nil_of_length_eq_zero h0
    subst this
    simp at hk
  · simp only [Value.slice.injEq] at e
    obtain ⟨rfl, -, rfl⟩ := e
    have hkl := (List.getElem?_eq_some_iff.1 hk).1
    replace hs := hs.resolve_left (by omega)
    refine ⟨ad, rfl, hs, ?_⟩
    have := hcells k (.int .u8 x.toNat) (by simp [bs, hk, B])
    obtain ⟨g, off, sp⟩ := ad
    subst hs
    rwa [add_zero] at this

theorem rnum_ok (n : Nat) (hn1 : 1 ≤ n) (hn : n ≤ 8) (b : Nat) (u : Value) (l : List UInt8) (at' : Nat) (s : PS) (w : World) (hb : Holds w (rfBlk b u at' s.bad)) (hu : URd w b u l) (hat : RAt l at' s) :
    Calls Try.prog 27 #[.pointer (some ⟨b, 0, none⟩), .int .i64 n] w (RNumPost w b u l s n) := by
  go_enter Try.func27, Try.ntmps27
  go_wp2_with fail
  refine (raw_ok n hn1 (by omega) b u l at' s _ hb hu hat).mono ?_
  rintro e w1 ⟨p, at2, x, rfl, hS, hat2, hrow⟩
  have hlen : (s.cut n).1.length ≤ 8 := by
    unfold PS.cut
    split
    · simp
    · split
      · simp
      · simp; omega
  have hfin : ∀ w', St w [b] w' [rfBlk b u at2 (s.cut n).2.bad] → RNumPost w b u l s n (.returned (.int .u64 (be (s.cut n).1))) w' := fun w' h => ⟨rfl, at2, h, hat2⟩
  have hr := hrow.read (hS.get 1 rfl)
  replace hS := hS.pick (L' := [rfBlk b u at2 (s.cut n).2.bad]) [0] rfl (by decide)
  clear hrow
  generalize (s.cut n).1 = p' at *
  generalize (s.cut n).2 = s' at *
  obtain ⟨a, c, rfl⟩ := hr.isSl
  have Hcell := Lib.hid (cells_row hr)
  clear hr hat hat2 hu hb
  go_wp2_with fail
  go_loop [6, 7] (fun t i => ∃ k : Nat, k ≤ p'.length ∧ i = .int .i64 k ∧ t = .int .u64 (be (p'.take k))) (fun _ i => p'.length - (intOf i).toNat)
  case atStart => exact ⟨0, Nat.zero_le _, rfl, rfl⟩
  case round =>
    obtain ⟨k, hk, rfl, rfl⟩ := hrel
    by_cases hlt : k < p'.length
    · obtain ⟨ad, rfl, hspot, hc⟩ := Hcell.out k p'[k] (by simp)
      obtain ⟨g, off, spot⟩ := ad
      simp only at hspot hc
      subst hspot
      have hx : be (p'.take k) < 72057594037927936 := by
        have h1 := be_take_lt p' k hk
        have h2 : 256 ^ k ≤ 256 ^ 7 := Nat.pow_le_pow_right (by omega) (by omega)
        have h3 : (256 : Nat) ^ 7 = 72057594037927936 := by decide
        omega
      have hbt := p'[k].toNat_lt
      have Hnext := Lib.hid (show be (p'.take (k + 1)) = be (p'.take k) * 256 + p'[k].toNat by rw [List.take_succ_eq_append_getElem hlt, be_snoc])
      go_wp2_with fail
      go_round
      case rel =>
        refine ⟨k + 1, by omega, by go_num, ?_⟩
        rw [Hnext.out]
        go_num
      case measure => simp [intOf]; omega
    · have hkl : k = p'.length := by omega
      have ht : p'.take k = p' := by rw [hkl]; exact List.take_length
      rw [ht]
      clear hkl ht
      go_wp2_with fail
      go_ret
      exact hfin _ hS

end Go.Proofs.Ytjgphbdffhmmgaa
