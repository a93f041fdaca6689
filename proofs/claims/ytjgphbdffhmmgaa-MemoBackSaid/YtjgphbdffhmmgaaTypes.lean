/-
  The types' sizes and zero values, as closed facts of the program.
-/
import Derived.Test.YtjgphbdffhmmgaaProg
import Derived.Test.YtjgphbdffhmmgaaData
import Derived.KernelRfl
namespace Go.Proofs.Ytjgphbdffhmmgaa
set_option linter.unusedSimpArgs false
set_option linter.unusedVariables false
open Go Go.RowKit

theorem slice_info {P : Program} {e : TypeId} {size bytes : Nat} (h : (P.info? e).map (fun i => (i.zero.isSome, i.size, i.bytes, (i.zero.map (·.cells.size)).getD 0)) = some (true, size, bytes, size)) (hp : 0 < size) :
    ∃ i z, P.info? e = some i ∧ i.zero = some z ∧ i.size = size ∧ i.bytes = bytes ∧ z.cells.size = size ∧ 0 < size := by
  cases hi : P.info? e with
  | none => simp [hi] at h
  | some i =>
    cases hz : i.zero with
    | none => simp [hi, hz] at h
    | some z =>
      simp [hi, hz] at h
      exact ⟨i, z, rfl, hz, h.1, h.2.1, h.2.2, hp⟩

instance ty2 : TyOK Try.prog 2 false 1 := ⟨⟨_, Try.underlying2, rfl⟩, by kernel_rfl⟩
instance ty3 : TyOK Try.prog 3 false 1 := ⟨⟨_, Try.underlying3, rfl⟩, by kernel_rfl⟩
instance ty4 : TyOK Try.prog 4 false 1 := ⟨⟨_, Try.underlying4, rfl⟩, by kernel_rfl⟩
instance ty5 : TyOK Try.prog 5 false 1 := ⟨⟨_, Try.underlying5, rfl⟩, by kernel_rfl⟩
instance ty9 : TyOK Try.prog 9 false 1 := ⟨⟨_, Try.underlying9, rfl⟩, by kernel_rfl⟩
instance ty12 : TyOK Try.prog 12 false 1 := ⟨⟨_, Try.underlying12, rfl⟩, by kernel_rfl⟩
instance ty21 : TyOK Try.prog 21 false 1 := ⟨⟨_, Try.underlying21, rfl⟩, by kernel_rfl⟩
instance ty22 : TyOK Try.prog 22 false 1 := ⟨⟨_, Try.underlying22, rfl⟩, by kernel_rfl⟩
instance sl22 : SliceOK Try.prog 22 5 1 1 := ⟨Try.underlying22, slice_info (by kernel_rfl) (by decide)⟩
instance ty24 : TyOK Try.prog 24 false 1 := ⟨⟨_, Try.underlying24, rfl⟩, by kernel_rfl⟩
instance ty25 : TyOK Try.prog 25 false 1 := ⟨⟨_, Try.underlying25, rfl⟩, by kernel_rfl⟩
instance ty26 : TyOK Try.prog 26 false 1 := ⟨⟨_, Try.underlying26, rfl⟩, by kernel_rfl⟩
instance ty27 : TyOK Try.prog 27 true 32 := ⟨⟨_, Try.underlying27, rfl⟩, by kernel_rfl⟩
instance ty28 : TyOK Try.prog 28 true 32 := ⟨⟨_, Try.underlying28, rfl⟩, by kernel_rfl⟩
instance ty30 : TyOK Try.prog 30 true 36 := ⟨⟨_, Try.underlying30, rfl⟩, by kernel_rfl⟩
instance ty32 : TyOK Try.prog 32 true 39 := ⟨⟨_, Try.underlying32, rfl⟩, by kernel_rfl⟩
instance ty33 : TyOK Try.prog 33 false 1 := ⟨⟨_, Try.underlying33, rfl⟩, by kernel_rfl⟩
instance sl33 : SliceOK Try.prog 33 96 3 24 := ⟨Try.underlying33, slice_info (by kernel_rfl) (by decide)⟩
instance ty34 : TyOK Try.prog 34 true 16 := ⟨⟨_, Try.underlying34, rfl⟩, by kernel_rfl⟩
instance ty35 : TyOK Try.prog 35 true 16 := ⟨⟨_, Try.underlying35, rfl⟩, by kernel_rfl⟩
instance ty36 : TyOK Try.prog 36 true 512 := ⟨⟨_, Try.underlying36, rfl⟩, by kernel_rfl⟩
instance ty38 : TyOK Try.prog 38 true 1024 := ⟨⟨_, Try.underlying38, rfl⟩, by kernel_rfl⟩
instance ty39 : TyOK Try.prog 39 false 1 := ⟨⟨_, Try.underlying39, rfl⟩, by kernel_rfl⟩
instance sl39 : SliceOK Try.prog 39 111 32 32 := ⟨Try.underlying39, slice_info (by kernel_rfl) (by decide)⟩
instance ty41 : TyOK Try.prog 41 true 1026 := ⟨⟨_, Try.underlying41, rfl⟩, by kernel_rfl⟩
instance ty43 : TyOK Try.prog 43 true 1069 := ⟨⟨_, Try.underlying43, rfl⟩, by kernel_rfl⟩
instance ty44 : TyOK Try.prog 44 false 1 := ⟨⟨_, Try.underlying44, rfl⟩, by kernel_rfl⟩
instance ty48 : TyOK Try.prog 48 true 36 := ⟨⟨_, Try.underlying48, rfl⟩, by kernel_rfl⟩
instance ty50 : TyOK Try.prog 50 true 39 := ⟨⟨_, Try.underlying50, rfl⟩, by kernel_rfl⟩
instance ty51 : TyOK Try.prog 51 false 1 := ⟨⟨_, Try.underlying51, rfl⟩, by kernel_rfl⟩
instance sl51 : SliceOK Try.prog 51 97 3 24 := ⟨Try.underlying51, slice_info (by kernel_rfl) (by decide)⟩
instance ty52 : TyOK Try.prog 52 true 16 := ⟨⟨_, Try.underlying52, rfl⟩, by kernel_rfl⟩
instance ty53 : TyOK Try.prog 53 true 512 := ⟨⟨_, Try.underlying53, rfl⟩, by kernel_rfl⟩
instance ty55 : TyOK Try.prog 55 true 1024 := ⟨⟨_, Try.underlying55, rfl⟩, by kernel_rfl⟩
instance ty56 : TyOK Try.prog 56 false 1 := ⟨⟨_, Try.underlying56, rfl⟩, by kernel_rfl⟩
instance sl56 : SliceOK Try.prog 56 27 32 32 := ⟨Try.underlying56, slice_info (by kernel_rfl) (by decide)⟩
instance ty58 : TyOK Try.prog 58 true 1026 := ⟨⟨_, Try.underlying58, rfl⟩, by kernel_rfl⟩
instance ty60 : TyOK Try.prog 60 true 1069 := ⟨⟨_, Try.underlying60, rfl⟩, by kernel_rfl⟩
instance ty63 : TyOK Try.prog 63 false 1 := ⟨⟨_, Try.underlying63, rfl⟩, by kernel_rfl⟩
instance ty65 : TyOK Try.prog 65 false 1 := ⟨⟨_, Try.underlying65, rfl⟩, by kernel_rfl⟩
instance ty67 : TyOK Try.prog 67 true 3 := ⟨⟨_, Try.underlying67, rfl⟩, by kernel_rfl⟩
instance ty73 : TyOK Try.prog 73 false 1 := ⟨⟨_, Try.underlying73, rfl⟩, by kernel_rfl⟩
instance sl73 : SliceOK Try.prog 73 5 1 1 := ⟨Try.underlying73, slice_info (by kernel_rfl) (by decide)⟩
instance ty93 : TyOK Try.prog 93 true 2 := ⟨⟨_, Try.underlying93, rfl⟩, by kernel_rfl⟩
instance ty96 : TyOK Try.prog 96 true 3 := ⟨⟨_, Try.underlying96, rfl⟩, by kernel_rfl⟩
instance ty97 : TyOK Try.prog 97 true 3 := ⟨⟨_, Try.underlying97, rfl⟩, by kernel_rfl⟩
instance ty111 : TyOK Try.prog 111 true 32 := ⟨⟨_, Try.underlying111, rfl⟩, by kernel_rfl⟩
instance ty118 : TyOK Try.prog 118 false 1 := ⟨⟨_, Try.underlying118, rfl⟩, by kernel_rfl⟩
instance sl118 : SliceOK Try.prog 118 24 1 4 := ⟨Try.underlying118, slice_info (by kernel_rfl) (by decide)⟩
instance ty120 : TyOK Try.prog 120 false 1 := ⟨⟨_, Try.underlying120, rfl⟩, by kernel_rfl⟩
instance sl120 : SliceOK Try.prog 120 25 1 8 := ⟨Try.underlying120, slice_info (by kernel_rfl) (by decide)⟩
instance ty125 : TyOK Try.prog 125 false 1 := ⟨⟨_, Try.underlying125, rfl⟩, by kernel_rfl⟩
instance ty135 : TyOK Try.prog 135 false 1 := ⟨⟨_, Try.underlying135, rfl⟩, by kernel_rfl⟩

instance zeDigest : ZeroOK Try.prog 111 (bs (zb 32)) := ⟨by kernel_rfl⟩
instance zeArr32 : ZeroOK Try.prog 27 (bs (zb 32)) := ⟨by kernel_rfl⟩
instance zeByte : ZeroOK Try.prog 5 [.int .u8 0] := ⟨by kernel_rfl⟩
instance zeU32 : ZeroOK Try.prog 24 [.int .u32 0] := ⟨by kernel_rfl⟩
instance zeU64 : ZeroOK Try.prog 25 [.int .u64 0] := ⟨by kernel_rfl⟩
instance zeCond : ZeroOK Try.prog 30 Cond.zero.cells := ⟨by kernel_rfl⟩
instance zeCondR : ZeroOK Try.prog 48 Cond.zero.cells := ⟨by kernel_rfl⟩
instance zeOp : ZeroOK Try.prog 32 Oop.zero.cells := ⟨by kernel_rfl⟩
instance zeOpR : ZeroOK Try.prog 50 Oop.zero.cells := ⟨by kernel_rfl⟩
instance zeHop : ZeroOK Try.prog 96 (Hop.cells ⟨0, 0, 0⟩) := ⟨by kernel_rfl⟩
instance zeHopR : ZeroOK Try.prog 97 (Hop.cells ⟨0, 0, 0⟩) := ⟨by kernel_rfl⟩
instance zeLSig : ZeroOK Try.prog 38 LSig.zero.cells := ⟨by kernel_rfl⟩
instance zeLSigR : ZeroOK Try.prog 55 LSig.zero.cells := ⟨by kernel_rfl⟩
instance zeSig : ZeroOK Try.prog 41 (Sig.zero.cells (.slice none 0 0)) := ⟨by kernel_rfl⟩
instance zeSigR : ZeroOK Try.prog 58 (Sig.zero.cells (.slice none 0 0)) := ⟨by kernel_rfl⟩
instance zeMemo : ZeroOK Try.prog 43 (Memo.zero.cells (.slice none 0 0) (.slice none 0 0)) := ⟨by kernel_rfl⟩
instance zeMemoR : ZeroOK Try.prog 60 (Memo.zero.cells (.slice none 0 0) (.slice none 0 0)) := ⟨by kernel_rfl⟩

end Go.Proofs.Ytjgphbdffhmmgaa
