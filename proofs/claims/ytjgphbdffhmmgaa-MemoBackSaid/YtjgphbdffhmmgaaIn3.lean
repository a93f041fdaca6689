/-
  What the program's reader of bytes does: numbers.
-/
import Derived.Test.YtjgphbdffhmmgaaIn2
namespace Go.Proofs.Ytjgphbdffhmmgaa
set_option linter.unusedSimpArgs false
set_option linter.unusedVariables false
open Go Go.RowKit
set_option maxRecDepth 100000

theorem be_snoc (l : List UInt8) (b : UInt8) : be (l ++ [b]) = be l * 256 + b.toNat := by simp [be]
theorem be_take_lt (l : List UInt8) : ∀ k, k ≤ l.length → be (l.take k) < 256 ^ k := by
  intro k
  induction k with
  | zero => intro _; simp [be]
  | succ k ih =>
    intro hk
    rw [List.take_succ_eq_append_getElem (by omega), be_snoc, Nat.pow_succ]
    have := ih (by omega)
    have := (l[k]'(by omega)).toNat_lt
    omega
theorem be_lt (l : List UInt8) : be l < 256 ^ l.length := by
  have := be_take_lt l l.length (Nat.le_refl _)
  rwa [List.take_length] at this
theorem or_byte (x : Nat) (b : UInt8) (hx : x < 72057594037927936) :
    bits .or .u64 (IntKind.u64.wrap ((x : Int) * 256)) (IntKind.u64.wrap (b.toNat : Int)) = ((x * 256 + b.toNat : Nat) : Int) := by
  have hb := b.toNat_lt
  rw [IntWalk.u64_in _ (by omega), IntWalk.u64_in _ (by omega)]
  have e : (x : Int) * 256 = ((x * 256 : Nat) : Int) := by omega
  rw [e, bits_or_u64_nat _ _ (by omega) (by omega)]
  have := Nat.shiftLeft_add_eq_or_of_lt (b := b.toNat) (i := 8) (by omega) x
  rw [Nat.shiftLeft_eq] at this
  have e2 : (2 : Nat) ^ 8 = 256 := rfl
  rw [e2] at this
  rw [← this]

def NumPost (w : World) (b : Nat) (v : Value) (s : PS) (n : Nat) (e : Ending) (w' : World) : Prop :=
  InPost w b v s (.int .u64 (s.num n).1) (s.num n).2 e w'

set_option maxHeartbeats 400000 in
theorem num_ok (n : Nat) (hn1 : 1 ≤ n) (hn : n ≤ 8) (b : Nat) (v : Value) (s : PS) (w : World) (hb : Holds w (inBlk b v s.bad)) (hv : InV w b v s.rest) :
    Calls Try.prog 45 #[.pointer (some ⟨b, 0, none⟩), .int .i64 n] w (NumPost w b v s n) := by
  go_enter Try.func45, Try.ntmps45
  go_wp2_with fail
  refine (cut_ok n hn1 (by omega) b v s _ hb hv).mono ?_
  rintro e w1 ⟨p, v', rfl, hS, hsub, hp⟩
  have hlen : (s.cut n).1.length ≤ 8 := by
    unfold PS.cut
    split
    · simp
    · split
      · simp
      · simp; omega
  have hfin : ∀ w', St w [b] w' [inBlk b v' (s.cut n).2.bad] → NumPost w b v s n (.returned (.int .u64 (be (s.cut n).1))) w' := fun w' h => ⟨rfl, v', h, hsub⟩
  generalize (s.cut n).1 = l at *
  generalize (s.cut n).2 = s' at *
  replace hp := hp.st hS (.inl rfl)
  have hpp : ∃ a c, p = .slice a l.length c ∧ (∀ k x, l[k]? = some x → ∃ ad, a = some ad ∧ ad.spot = none ∧ w1.cell? ⟨ad.block, ad.off + k, none⟩ = some (.int .u8 x.toNat)) := by
    rcases hp with ⟨rfl, rfl⟩ | ⟨g, off, cap, cs, T, fr, rfl, hc, hm, hne, hg, hbs⟩
    · exact ⟨_, _, rfl, fun k x h => by simp at h⟩
    · refine ⟨_, _, rfl, fun k x h => ⟨_, rfl, rfl, ?_⟩⟩
      have := CellsAt.row (off := off) (n := l.length) hg k (.int .u8 x.toNat) (by rw [hbs]; simp [bs, h, B])
      rwa [add_zero] at this
  obtain ⟨a, c, rfl, hcell⟩ := hpp
  clear hp hsub hb hv
  have Hcell := Lib.hid hcell
  clear hcell
  go_wp2_with fail
  go_loop [5, 12] (fun t i => ∃ k : Nat, k ≤ l.length ∧ i = .int .i64 k ∧ t = .int .u64 (be (l.take k))) (fun _ i => l.length - (intOf i).toNat)
  case atStart => exact ⟨0, Nat.zero_le _, rfl, rfl⟩
  case round =>
    obtain ⟨k, hk, rfl, rfl⟩ := hrel
    by_cases hlt : k < l.length
    · obtain ⟨ad, rfl, hspot, hc⟩ := Hcell.out k l[k] (by simp)
      obtain ⟨g, off, spot⟩ := ad
      simp only at hspot hc
      subst hspot
      have hx : be (l.take k) < 72057594037927936 := by
        have h1 := be_take_lt l k hk
        have h2 : 256 ^ k ≤ 256 ^ 7 := Nat.pow_le_pow_right (by omega) (by omega)
        have h3 : (256 : Nat) ^ 7 = 72057594037927936 := by decide
        omega
      have hor := Lib.hid (or_byte (be (l.take k)) l[k] hx)
      clear hx
      go_wp2_with fail
      go_round
      case rel =>
        refine ⟨k + 1, by omega, by go_num, ?_⟩
        rw [hor.out, List.take_succ_eq_append_getElem hlt, be_snoc]
      case measure => simp [intOf]; omega
    · have hkl : k = l.length := by omega
      have ht : l.take k = l := by rw [hkl]; exact List.take_length
      rw [ht]
      clear hkl ht
      go_wp2_with fail
      go_ret
      exact hfin _ hS
end Go.Proofs.Ytjgphbdffhmmgaa
