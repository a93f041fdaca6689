/-
  The types' sizes and zero values, as closed facts of the program.
  What the program's reader of bytes does, method by method. Conditions: the reader's block and its bytes are known.
  What the program's reader of bytes does: cut.
  What the program's reader of bytes does: numbers.
  What the program's reader of bytes does: one, four, eight bytes; how many; sums; the end.
-/
import Derived.Test.YtldmkafobbemjaaProg
import Derived.Test.YtldmkafobbemjaaA1
import Derived.KernelRfl
namespace Go.Proofs.Ytldmkafobbemjaa
set_option linter.unusedSimpArgs false
set_option linter.unusedVariables false
open Go Go.RowKit

theorem slice_info {P : Program} {e : TypeId} {size bytes : Nat} (h : (P.info? e).map (fun i => (i.zero.isSome, i.size, i.bytes, (i.zero.map (·.cells.size)).getD 0)) = some (true, size, bytes, size)) (hp : 0 < size) :
    ∃ i z, P.info? e = some i ∧ i.zero = some z ∧ i.size = size ∧ i.bytes = bytes ∧ z.cells.size = size ∧ 0 < size := by
  cases hi : P.info? e with
  | none => simp [hi] at h
  | some i =>
    cases hz : i.zero with
    | none => simp [hi, hz] at h
    | some z =>
      simp [hi, hz] at h
      exact ⟨i, z, rfl, hz, h.1, h.2.1, h.2.2, hp⟩

instance ty2 : TyOK Try.prog 2 false 1 := ⟨⟨_, Try.underlying2, rfl⟩, by kernel_rfl⟩
instance ty3 : TyOK Try.prog 3 false 1 := ⟨⟨_, Try.underlying3, rfl⟩, by kernel_rfl⟩
instance ty4 : TyOK Try.prog 4 false 1 := ⟨⟨_, Try.underlying4, rfl⟩, by kernel_rfl⟩
instance ty5 : TyOK Try.prog 5 false 1 := ⟨⟨_, Try.underlying5, rfl⟩, by kernel_rfl⟩
instance ty9 : TyOK Try.prog 9 false 1 := ⟨⟨_, Try.underlying9, rfl⟩, by kernel_rfl⟩
instance ty12 : TyOK Try.prog 12 false 1 := ⟨⟨_, Try.underlying12, rfl⟩, by kernel_rfl⟩
instance ty21 : TyOK Try.prog 21 false 1 := ⟨⟨_, Try.underlying21, rfl⟩, by kernel_rfl⟩
instance ty22 : TyOK Try.prog 22 true 32 := ⟨⟨_, Try.underlying22, rfl⟩, by kernel_rfl⟩
instance ty23 : TyOK Try.prog 23 true 64 := ⟨⟨_, Try.underlying23, rfl⟩, by kernel_rfl⟩
instance ty25 : TyOK Try.prog 25 true 65 := ⟨⟨_, Try.underlying25, rfl⟩, by kernel_rfl⟩
instance ty26 : TyOK Try.prog 26 false 1 := ⟨⟨_, Try.underlying26, rfl⟩, by kernel_rfl⟩
instance ty27 : TyOK Try.prog 27 false 1 := ⟨⟨_, Try.underlying27, rfl⟩, by kernel_rfl⟩
instance ty28 : TyOK Try.prog 28 true 2 := ⟨⟨_, Try.underlying28, rfl⟩, by kernel_rfl⟩
instance ty29 : TyOK Try.prog 29 false 1 := ⟨⟨_, Try.underlying29, rfl⟩, by kernel_rfl⟩
instance sl29 : SliceOK Try.prog 29 86 36 64 := ⟨Try.underlying29, slice_info (by kernel_rfl) (by decide)⟩
instance ty31 : TyOK Try.prog 31 true 7 := ⟨⟨_, Try.underlying31, rfl⟩, by kernel_rfl⟩
instance ty32 : TyOK Try.prog 32 true 16 := ⟨⟨_, Try.underlying32, rfl⟩, by kernel_rfl⟩
instance ty33 : TyOK Try.prog 33 true 16 := ⟨⟨_, Try.underlying33, rfl⟩, by kernel_rfl⟩
instance ty34 : TyOK Try.prog 34 true 512 := ⟨⟨_, Try.underlying34, rfl⟩, by kernel_rfl⟩
instance ty36 : TyOK Try.prog 36 true 1024 := ⟨⟨_, Try.underlying36, rfl⟩, by kernel_rfl⟩
instance ty37 : TyOK Try.prog 37 false 1 := ⟨⟨_, Try.underlying37, rfl⟩, by kernel_rfl⟩
instance sl37 : SliceOK Try.prog 37 50 32 32 := ⟨Try.underlying37, slice_info (by kernel_rfl) (by decide)⟩
instance ty39 : TyOK Try.prog 39 true 1026 := ⟨⟨_, Try.underlying39, rfl⟩, by kernel_rfl⟩
instance ty40 : TyOK Try.prog 40 true 2052 := ⟨⟨_, Try.underlying40, rfl⟩, by kernel_rfl⟩
instance ty42 : TyOK Try.prog 42 true 2059 := ⟨⟨_, Try.underlying42, rfl⟩, by kernel_rfl⟩
instance ty44 : TyOK Try.prog 44 false 1 := ⟨⟨_, Try.underlying44, rfl⟩, by kernel_rfl⟩
instance ty47 : TyOK Try.prog 47 false 1 := ⟨⟨_, Try.underlying47, rfl⟩, by kernel_rfl⟩
instance sl47 : SliceOK Try.prog 47 5 1 1 := ⟨Try.underlying47, slice_info (by kernel_rfl) (by decide)⟩
instance ty50 : TyOK Try.prog 50 true 32 := ⟨⟨_, Try.underlying50, rfl⟩, by kernel_rfl⟩
instance ty51 : TyOK Try.prog 51 true 64 := ⟨⟨_, Try.underlying51, rfl⟩, by kernel_rfl⟩
instance ty53 : TyOK Try.prog 53 true 65 := ⟨⟨_, Try.underlying53, rfl⟩, by kernel_rfl⟩
instance ty57 : TyOK Try.prog 57 false 1 := ⟨⟨_, Try.underlying57, rfl⟩, by kernel_rfl⟩
instance sl57 : SliceOK Try.prog 57 91 36 64 := ⟨Try.underlying57, slice_info (by kernel_rfl) (by decide)⟩
instance ty59 : TyOK Try.prog 59 true 7 := ⟨⟨_, Try.underlying59, rfl⟩, by kernel_rfl⟩
instance ty60 : TyOK Try.prog 60 true 16 := ⟨⟨_, Try.underlying60, rfl⟩, by kernel_rfl⟩
instance ty61 : TyOK Try.prog 61 true 512 := ⟨⟨_, Try.underlying61, rfl⟩, by kernel_rfl⟩
instance ty63 : TyOK Try.prog 63 true 1024 := ⟨⟨_, Try.underlying63, rfl⟩, by kernel_rfl⟩
instance ty64 : TyOK Try.prog 64 false 1 := ⟨⟨_, Try.underlying64, rfl⟩, by kernel_rfl⟩
instance sl64 : SliceOK Try.prog 64 22 32 32 := ⟨Try.underlying64, slice_info (by kernel_rfl) (by decide)⟩
instance ty66 : TyOK Try.prog 66 true 1026 := ⟨⟨_, Try.underlying66, rfl⟩, by kernel_rfl⟩
instance ty67 : TyOK Try.prog 67 true 2052 := ⟨⟨_, Try.underlying67, rfl⟩, by kernel_rfl⟩
instance ty69 : TyOK Try.prog 69 true 2059 := ⟨⟨_, Try.underlying69, rfl⟩, by kernel_rfl⟩
instance ty72 : TyOK Try.prog 72 false 1 := ⟨⟨_, Try.underlying72, rfl⟩, by kernel_rfl⟩
instance ty74 : TyOK Try.prog 74 false 1 := ⟨⟨_, Try.underlying74, rfl⟩, by kernel_rfl⟩
instance ty76 : TyOK Try.prog 76 true 3 := ⟨⟨_, Try.underlying76, rfl⟩, by kernel_rfl⟩
instance ty83 : TyOK Try.prog 83 false 1 := ⟨⟨_, Try.underlying83, rfl⟩, by kernel_rfl⟩
instance ty84 : TyOK Try.prog 84 true 32 := ⟨⟨_, Try.underlying84, rfl⟩, by kernel_rfl⟩
instance ty86 : TyOK Try.prog 86 true 36 := ⟨⟨_, Try.underlying86, rfl⟩, by kernel_rfl⟩
instance ty88 : TyOK Try.prog 88 true 39 := ⟨⟨_, Try.underlying88, rfl⟩, by kernel_rfl⟩
instance ty91 : TyOK Try.prog 91 true 36 := ⟨⟨_, Try.underlying91, rfl⟩, by kernel_rfl⟩
instance ty93 : TyOK Try.prog 93 true 39 := ⟨⟨_, Try.underlying93, rfl⟩, by kernel_rfl⟩
instance ty100 : TyOK Try.prog 100 false 1 := ⟨⟨_, Try.underlying100, rfl⟩, by kernel_rfl⟩
instance sl100 : SliceOK Try.prog 100 5 1 1 := ⟨Try.underlying100, slice_info (by kernel_rfl) (by decide)⟩
instance ty113 : TyOK Try.prog 113 true 2 := ⟨⟨_, Try.underlying113, rfl⟩, by kernel_rfl⟩
instance ty116 : TyOK Try.prog 116 false 1 := ⟨⟨_, Try.underlying116, rfl⟩, by kernel_rfl⟩
instance ty117 : TyOK Try.prog 117 false 1 := ⟨⟨_, Try.underlying117, rfl⟩, by kernel_rfl⟩
instance sl117 : SliceOK Try.prog 117 116 1 8 := ⟨Try.underlying117, slice_info (by kernel_rfl) (by decide)⟩
instance ty147 : TyOK Try.prog 147 false 1 := ⟨⟨_, Try.underlying147, rfl⟩, by kernel_rfl⟩
instance sl147 : SliceOK Try.prog 147 27 1 8 := ⟨Try.underlying147, slice_info (by kernel_rfl) (by decide)⟩
instance ty150 : TyOK Try.prog 150 false 1 := ⟨⟨_, Try.underlying150, rfl⟩, by kernel_rfl⟩
instance sl150 : SliceOK Try.prog 150 26 1 4 := ⟨Try.underlying150, slice_info (by kernel_rfl) (by decide)⟩
instance ty153 : TyOK Try.prog 153 false 1 := ⟨⟨_, Try.underlying153, rfl⟩, by kernel_rfl⟩
instance ty155 : TyOK Try.prog 155 true 32 := ⟨⟨_, Try.underlying155, rfl⟩, by kernel_rfl⟩
instance ty156 : TyOK Try.prog 156 true 1024 := ⟨⟨_, Try.underlying156, rfl⟩, by kernel_rfl⟩
instance ty160 : TyOK Try.prog 160 false 1 := ⟨⟨_, Try.underlying160, rfl⟩, by kernel_rfl⟩
instance sl160 : SliceOK Try.prog 160 47 1 24 := ⟨Try.underlying160, slice_info (by kernel_rfl) (by decide)⟩
instance ty161 : TyOK Try.prog 161 false 1 := ⟨⟨_, Try.underlying161, rfl⟩, by kernel_rfl⟩
instance ty165 : TyOK Try.prog 165 true 8 := ⟨⟨_, Try.underlying165, rfl⟩, by kernel_rfl⟩
instance ty166 : TyOK Try.prog 166 true 64 := ⟨⟨_, Try.underlying166, rfl⟩, by kernel_rfl⟩
instance ty168 : TyOK Try.prog 168 true 73 := ⟨⟨_, Try.underlying168, rfl⟩, by kernel_rfl⟩
instance ty170 : TyOK Try.prog 170 true 16 := ⟨⟨_, Try.underlying170, rfl⟩, by kernel_rfl⟩
instance ty172 : TyOK Try.prog 172 true 64 := ⟨⟨_, Try.underlying172, rfl⟩, by kernel_rfl⟩
instance ty185 : TyOK Try.prog 185 false 1 := ⟨⟨_, Try.underlying185, rfl⟩, by kernel_rfl⟩

instance zeDigest : ZeroOK Try.prog 50 (bs (zb 32)) := ⟨by kernel_rfl⟩
instance zeArr32 : ZeroOK Try.prog 22 (bs (zb 32)) := ⟨by kernel_rfl⟩
instance zeByte : ZeroOK Try.prog 5 [.int .u8 0] := ⟨by kernel_rfl⟩
instance zeU32 : ZeroOK Try.prog 26 [.int .u32 0] := ⟨by kernel_rfl⟩
instance zeU64 : ZeroOK Try.prog 27 [.int .u64 0] := ⟨by kernel_rfl⟩
instance zeCond : ZeroOK Try.prog 86 Cond.zero.cells := ⟨by kernel_rfl⟩
instance zeCondR : ZeroOK Try.prog 91 Cond.zero.cells := ⟨by kernel_rfl⟩
instance zeOp : ZeroOK Try.prog 88 Oop.zero.cells := ⟨by kernel_rfl⟩
instance zeOpR : ZeroOK Try.prog 93 Oop.zero.cells := ⟨by kernel_rfl⟩
instance zeLSig : ZeroOK Try.prog 36 LSig.zero.cells := ⟨by kernel_rfl⟩
instance zeLSigR : ZeroOK Try.prog 63 LSig.zero.cells := ⟨by kernel_rfl⟩
instance zeSig : ZeroOK Try.prog 39 (Sig.zero.cells (.slice none 0 0)) := ⟨by kernel_rfl⟩
instance zeSigR : ZeroOK Try.prog 66 (Sig.zero.cells (.slice none 0 0)) := ⟨by kernel_rfl⟩

end Go.Proofs.Ytldmkafobbemjaa
namespace Go.Proofs.Ytldmkafobbemjaa
set_option linter.unusedSimpArgs false
set_option linter.unusedVariables false
open Go Go.RowKit
set_option maxRecDepth 100000

/-- A slice that holds these bytes, off a block b. -/
def InV (w : World) (b : Nat) (v : Value) (l : List UInt8) : Prop :=
  (v = .slice none 0 0 ∧ l = []) ∨ ∃ g off cap cs T fr, v = .slice (some ⟨g, off, none⟩) l.length cap ∧ l.length ≤ cap ∧ cap ≤ maxLen ∧ g ≠ b ∧ w.heap[g]? = some (.cells cs T fr) ∧ (cs.toList.drop off).take l.length = bs l
def SubV (v : Value) (l : List UInt8) (v' : Value) (l' : List UInt8) : Prop := ∀ w b, InV w b v l → InV w b v' l'

theorem SubV.refl (v : Value) (l : List UInt8) : SubV v l v l := fun _ _ h => h
theorem SubV.trans {v l v' l' v'' l''} (h : SubV v l v' l') (k : SubV v' l' v'' l'') : SubV v l v'' l'' := fun w b hh => k w b (h w b hh)
theorem SubV.none (v : Value) (l : List UInt8) : SubV v l (.slice none 0 0) [] := fun _ _ _ => .inl ⟨rfl, rfl⟩

theorem InV.st {w0 w : World} {b : Nat} {v : Value} {l : List UInt8} {A : List Nat} {L : List Ent} (h : InV w0 b v l) (hS : St w0 A w L) (hA : A = [b] ∨ A = []) : InV w b v l := by
  rcases h with h | ⟨g, off, cap, cs, T, fr, hv, hc, hm, hne, hg, hb⟩
  · exact .inl h
  · refine .inr ⟨g, off, cap, cs, T, fr, hv, hc, hm, hne, ?_, hb⟩
    rw [hS.keep g (lt_of_some hg) (by rcases hA with rfl | rfl <;> simp [hne])]
    exact hg

theorem InV.read {w : World} {b : Nat} {v : Value} {l : List UInt8} (h : InV w b v l) : RowR w 1 v l.length (bs l) := by
  refine ⟨by simp [bs_length], ?_⟩
  rcases h with ⟨rfl, rfl⟩ | ⟨g, off, cap, cs, T, fr, rfl, hc, hm, hne, hg, hb⟩
  · exact .inl ⟨rfl, rfl⟩
  · refine .inr ⟨_, cap, rfl, hc, .inr rfl, ?_⟩
    rw [← hb]
    exact CellsAt.row hg

abbrev inBlk (b : Nat) (v : Value) (bad : Int) : Ent := some (b, [v, .int .i64 bad], 113)
/-- What a reader's method leaves: the reader's block alone is written. -/
def InPost (w : World) (b : Nat) (v : Value) (s : PS) (r : Value) (s' : PS) (e : Ending) (w' : World) : Prop :=
  e = .returned r ∧ ∃ v', St w [b] w' [inBlk b v' s'.bad] ∧ SubV v s.rest v' s'.rest

theorem in_start {w : World} {b : Nat} {v : Value} {bad : Int} (hb : Holds w (inBlk b v bad)) : St w [b] w [inBlk b v bad] :=
  St.start w [inBlk b v bad] (fun x hx => by simp at hx; subst hx; exact hb) (by simp [keys])

theorem cell_in {w : World} {b : Nat} {v : Value} {bad : Int} (hb : Holds w (inBlk b v bad)) : w.cell? ⟨b, 0, none⟩ = some v ∧ w.cell? ⟨b, 1, none⟩ = some (.int .i64 bad) ∧ w.frozen? ⟨b, 0, none⟩ = false ∧ w.frozen? ⟨b, 1, none⟩ = false := by
  have h := hb _ _ _ rfl
  exact ⟨by rw [cell_row h]; rfl, by rw [cell_row h]; rfl, frozen_of_row w b 0 _ _ h, frozen_of_row w b 1 _ _ h⟩

set_option maxHeartbeats 400000 in
theorem bad_ok (b : Nat) (v : Value) (bad : Int) (w : World) (hb : Holds w (inBlk b v bad)) :
    Calls Try.prog 19 #[.pointer (some ⟨b, 0, none⟩)] w fun e w' => e = .returned (.int .i64 bad) ∧ w = w' := by
  obtain ⟨_, hc, _⟩ := cell_in hb
  go_enter Try.func19, Try.ntmps19
  go_wp2
  go_ret
  exact ⟨rfl, rfl⟩

set_option maxHeartbeats 400000 in
theorem left_ok (b : Nat) (v : Value) (l : List UInt8) (bad : Int) (w : World) (hb : Holds w (inBlk b v bad)) (hv : InV w b v l) (hl : l.length ≤ maxLen) :
    Calls Try.prog 20 #[.pointer (some ⟨b, 0, none⟩)] w fun e w' => e = .returned (.int .i64 l.length) ∧ w = w' := by
  unfold maxLen at hl
  obtain ⟨hc, _, _⟩ := cell_in hb
  have hvv : ∃ a c, v = .slice a l.length c := by
    rcases hv with ⟨rfl, rfl⟩ | ⟨g, off, cap, cs, T, fr, rfl, _⟩
    · exact ⟨_, _, rfl⟩
    · exact ⟨_, _, rfl⟩
  obtain ⟨a, c, rfl⟩ := hvv
  clear hv
  go_enter Try.func20, Try.ntmps20
  go_wp2
  go_ret
  exact ⟨rfl, rfl⟩

/-- Fail, where it notes something. -/
theorem fail_yes (b : Nat) (v : Value) (er : Int) (he : (er == 0) = false) (w : World) (hb : Holds w (inBlk b v 0)) :
    Calls Try.prog 57 #[.pointer (some ⟨b, 0, none⟩), .int .i64 er] w fun e w' => e = .returned (.tuple #[]) ∧ St w [b] w' [inBlk b (.slice none 0 0) er] := by
  have hS := in_start hb
  clear hb
  have he' : (er != 0) = true := by simpa [bne] using he
  go_enter Try.func57, Try.ntmps57
  go_wp2_with (first | ((with_reducible show wpList _ _ _ (Oper.mk _ (Op.load _ _) _ _ _ _ :: _) _ _); refine wpl rfl ?_; refine (owp_load1 hS 0 rfl rfl rfl rfl ?_)) | ((with_reducible show wpList _ _ _ (Oper.mk _ (Op.store _ _ _) _ _ _ _ :: _) _ _); refine wpl rfl ?_; refine (owp_store1 hS 0 rfl rfl rfl rfl rfl (by simp) rfl ?_); clear hS; intro _ hS; try simp [Act.eval] at hS))
  go_end0
  exact ⟨rfl, hS⟩

theorem fail_no (b : Nat) (v : Value) (bad er : Int) (h : bad ≠ 0 ∨ er = 0) (w : World) (hb : Holds w (inBlk b v bad)) :
    Calls Try.prog 57 #[.pointer (some ⟨b, 0, none⟩), .int .i64 er] w fun e w' => e = .returned (.tuple #[]) ∧ St w [b] w' [inBlk b v bad] := by
  have hS := in_start hb
  clear hb
  by_cases hbad : bad = 0
  · have her : er = 0 := by rcases h with h | h; exact (h hbad).elim; exact h
    subst hbad her
    go_enter Try.func57, Try.ntmps57
    go_wp2_with (first | ((with_reducible show wpList _ _ _ (Oper.mk _ (Op.load _ _) _ _ _ _ :: _) _ _); refine wpl rfl ?_; refine (owp_load1 hS 0 rfl rfl rfl rfl ?_)) | ((with_reducible show wpList _ _ _ (Oper.mk _ (Op.store _ _ _) _ _ _ _ :: _) _ _); refine wpl rfl ?_; refine (owp_store1 hS 0 rfl rfl rfl rfl rfl (by simp) rfl ?_); clear hS; intro _ hS; try simp [Act.eval] at hS))
    go_end0
    exact ⟨rfl, hS⟩
  · have hbb : (bad == 0) = false := by simpa using hbad
    clear h hbad
    go_enter Try.func57, Try.ntmps57
    go_wp2_with (first | ((with_reducible show wpList _ _ _ (Oper.mk _ (Op.load _ _) _ _ _ _ :: _) _ _); refine wpl rfl ?_; refine (owp_load1 hS 0 rfl rfl rfl rfl ?_)) | ((with_reducible show wpList _ _ _ (Oper.mk _ (Op.store _ _ _) _ _ _ _ :: _) _ _); refine wpl rfl ?_; refine (owp_store1 hS 0 rfl rfl rfl rfl rfl (by simp) rfl ?_); clear hS; intro _ hS; try simp [Act.eval] at hS))
    go_end0
    exact ⟨rfl, hS⟩

theorem fail_ok (b : Nat) (v : Value) (s : PS) (er : Int) (w : World) (hb : Holds w (inBlk b v s.bad)) :
    Calls Try.prog 57 #[.pointer (some ⟨b, 0, none⟩), .int .i64 er] w (InPost w b v s (.tuple #[]) (s.fail er)) := by
  obtain ⟨l, bad⟩ := s
  by_cases h : bad = 0 ∧ er ≠ 0
  · obtain ⟨rfl, he⟩ := h
    refine (fail_yes b v er (by simpa using he) w hb).mono ?_
    rintro e w' ⟨rfl, hs⟩
    refine ⟨rfl, .slice none 0 0, ?_, ?_⟩
    · simpa [PS.fail, he] using hs
    · simpa [PS.fail, he] using SubV.none v l
  · refine (fail_no b v bad er (by by_cases hb : bad = 0; exact .inr (by simpa [hb] using h); exact .inl hb) w hb).mono ?_
    rintro e w' ⟨rfl, hs⟩
    refine ⟨rfl, v, ?_, ?_⟩
    · simpa [PS.fail, h] using hs
    · simpa [PS.fail, h] using SubV.refl v l

end Go.Proofs.Ytldmkafobbemjaa
namespace Go.Proofs.Ytldmkafobbemjaa
set_option linter.unusedSimpArgs false
set_option linter.unusedVariables false
open Go Go.RowKit
set_option maxRecDepth 100000

def CutPost (w : World) (b : Nat) (v : Value) (s : PS) (n : Nat) (e : Ending) (w' : World) : Prop :=
  ∃ p v', e = .returned p ∧ St w [b] w' [inBlk b v' (s.cut n).2.bad] ∧ SubV v s.rest v' (s.cut n).2.rest ∧ InV w b p (s.cut n).1

theorem cut_ok (n : Nat) (hn1 : 1 ≤ n) (hn : n ≤ 4096) (b : Nat) (v : Value) (s : PS) (w : World) (hb : Holds w (inBlk b v s.bad)) (hv : InV w b v s.rest) :
    Calls Try.prog 75 #[.pointer (some ⟨b, 0, none⟩), .int .i64 n] w (CutPost w b v s n) := by
  obtain ⟨l, bad⟩ := s
  have hS := in_start hb
  by_cases hbad : bad = 0
  · subst hbad
    by_cases hlen : l.length < n
    · have hvv : ∃ a c, v = .slice a l.length c := by
        rcases hv with ⟨rfl, rfl⟩ | ⟨g, off, cap, cs, T, fr, rfl, _⟩
        · exact ⟨_, _, rfl⟩
        · exact ⟨_, _, rfl⟩
      obtain ⟨a, c, rfl⟩ := hvv
      clear hv
      go_enter Try.func75, Try.ntmps75
      go_wp2_with (first | ((with_reducible show wpList _ _ _ (Oper.mk _ (Op.load _ _) _ _ _ _ :: _) _ _); refine wpl rfl ?_; refine (owp_load1 hS 0 rfl rfl rfl rfl ?_)) | (go_at_call 19; refine (bad_ok b _ _ _ hb).mono ?_; rintro e w' ⟨rfl, rfl⟩))
      refine (fail_ok b _ ⟨l, 0⟩ 9 _ hb).mono ?_
      rintro e w' ⟨rfl, v', hs, hsub⟩
      go_wp2_with fail
      go_ret
      exact ⟨_, v', rfl, by simpa [PS.cut, hlen, PS.fail] using hs, by simpa [PS.cut, hlen, PS.fail] using hsub, .inl ⟨rfl, by simp [PS.cut, hlen]⟩⟩
    · rcases hv with ⟨rfl, rfl⟩ | ⟨g, off, cap, cs, T, fr, rfl, hc, hm, hne, hg, hbs⟩
      · simp at hlen; omega
      · have hle : n ≤ l.length := by omega
        have hm' := hm
        unfold maxLen at hm
        have hcc : l.length ≤ cap := hc
        clear hlen hc
        have hcap : (n : Int) ≤ cap := by omega
        have hlen' : (n : Int) ≤ l.length := by omega
        have hcut : (PS.cut n ⟨l, 0⟩) = (l.take n, ⟨l.drop n, 0⟩) := by
          unfold PS.cut
          simp only [ne_eq, not_true_eq_false, if_false]
          rw [if_neg (by omega)]
        have Hcut := Lib.hid hcut
        clear hcut
        have hfin : ∀ (w1 : World) (p v' : Value), St w [b] w1 [inBlk b v' 0] → (∃ k, p = .slice (some ⟨g, off, none⟩) n k ∧ n ≤ k ∧ k ≤ maxLen) →
            (∃ o k, v' = .slice (some ⟨g, o, none⟩) (l.length - n) k ∧ k = cap - n ∧ (l.length - n = 0 ∨ o = off + n)) → CutPost w b (.slice (some ⟨g, off, none⟩) l.length cap) ⟨l, 0⟩ n (.returned p) w1 := by
          rintro w1 p v' hs ⟨k, rfl, hk, hkm⟩ ⟨o, k', rfl, rfl, ho⟩
          refine ⟨_, .slice (some ⟨g, o, none⟩) (l.length - n) (cap - n), rfl, ?_, ?_, ?_⟩
          · rw [Hcut.out]; exact hs
          · rw [Hcut.out]
            intro w2 b2 hi
            rcases hi with ⟨h, _⟩ | ⟨g', off', cap', cs', T', fr', hv, hc', hm2, hne', hg', hb'⟩
            · cases h
            · simp only [Value.slice.injEq, Option.some.injEq, Addr.mk.injEq, and_true] at hv
              obtain ⟨⟨rfl, rfl⟩, -, rfl⟩ := hv
              refine .inr ⟨g, o, cap - n, cs', T', fr', ?_, ?_, ?_, hne', hg', ?_⟩
              · simp
              · simp; omega
              · omega
              · rcases ho with h0 | rfl
                · have hz : (l.drop n).length = 0 := by simp; omega
                  have hz' := List.eq_nil_of_length_eq_zero hz
                  show List.take (l.drop n).length _ = bs (l.drop n)
                  rw [hz']; simp [bs]
                · show List.take (l.drop n).length _ = bs (l.drop n)
                  rw [← bs_drop, ← hb', List.drop_take, List.drop_drop, List.length_drop]
          · rw [Hcut.out]
            refine .inr ⟨g, off, k, cs, T, fr, ?_, ?_, hkm, hne, hg, ?_⟩
            · simp [hle]
            · simp; omega
            · show List.take (l.take n).length _ = bs (l.take n)
              rw [← bs_take, ← hbs, List.length_take, Nat.min_eq_left hle, List.take_take, Nat.min_eq_left hle]
        clear hbs hg hne
        have hwcap : cap - n ≤ cap := by omega
        have Hfin := Lib.hid hfin
        clear hfin
        go_enter Try.func75, Try.ntmps75
        go_wp2_with (first | ((with_reducible show wpList _ _ _ (Oper.mk _ (Op.load _ _) _ _ _ _ :: _) _ _); refine wpl rfl ?_; refine (owp_load1 hS 0 rfl rfl rfl rfl ?_)) | ((with_reducible show wpList _ _ _ (Oper.mk _ (Op.store _ _ _) _ _ _ _ :: _) _ _); refine wpl rfl ?_; refine (owp_store1 hS 0 rfl rfl rfl rfl rfl (by simp) rfl ?_); clear hS; intro _ hS; try simp [Act.eval] at hS) | (go_at_call 19; refine (bad_ok b _ _ _ hb).mono ?_; rintro e w' ⟨rfl, rfl⟩))
        all_goals go_ret
        · have hcn : cap = n := by assumption
          subst hcn
          show CutPost w b _ _ _ (.returned (.slice (some ⟨g, off, none⟩) cap cap)) _
          exact Hfin.out _ _ _ hS ⟨cap, rfl, Nat.le_refl _, hm'⟩ ⟨off, 0, by simp, by omega, .inl (by omega)⟩
        · have hcn : ¬ cap = n := by assumption
          show CutPost w b _ _ _ (.returned (.slice (some ⟨g, off, none⟩) n cap)) _
          exact Hfin.out _ _ _ hS ⟨cap, rfl, by omega, hm'⟩ ⟨off + n, cap - n, by simp [hcn], rfl, .inr rfl⟩
  · go_enter Try.func75, Try.ntmps75
    have hbb : (bad != 0) = true := by simpa using hbad
    go_wp2_with (first | ((with_reducible show wpList _ _ _ (Oper.mk _ (Op.load _ _) _ _ _ _ :: _) _ _); refine wpl rfl ?_; refine (owp_load1 hS 0 rfl rfl rfl rfl ?_)) | (go_at_call 19; refine (bad_ok b _ _ _ hb).mono ?_; rintro e w' ⟨rfl, rfl⟩))
    go_ret
    exact ⟨_, v, rfl, by simpa [PS.cut, hbad] using hS, by simpa [PS.cut, hbad] using SubV.refl v l, .inl ⟨rfl, by simp [PS.cut, hbad]⟩⟩

end Go.Proofs.Ytldmkafobbemjaa
namespace Go.Proofs.Ytldmkafobbemjaa
set_option linter.unusedSimpArgs false
set_option linter.unusedVariables false
open Go Go.RowKit
set_option maxRecDepth 100000

theorem be_snoc (l : List UInt8) (b : UInt8) : be (l ++ [b]) = be l * 256 + b.toNat := by simp [be]
theorem be_take_lt (l : List UInt8) : ∀ k, k ≤ l.length → be (l.take k) < 256 ^ k := by
  intro k
  induction k with
  | zero => intro _; simp [be]
  | succ k ih =>
    intro hk
    rw [List.take_succ_eq_append_getElem (by omega), be_snoc, Nat.pow_succ]
    have := ih (by omega)
    have := (l[k]'(by omega)).toNat_lt
    omega
theorem be_lt (l : List UInt8) : be l < 256 ^ l.length := by
  have := be_take_lt l l.length (Nat.le_refl _)
  rwa [List.take_length] at this
theorem or_byte (x : Nat) (b : UInt8) (hx : x < 72057594037927936) :
    bits .or .u64 (IntKind.u64.wrap ((x : Int) * 256)) (IntKind.u64.wrap (b.toNat : Int)) = ((x * 256 + b.toNat : Nat) : Int) := by
  have hb := b.toNat_lt
  rw [IntWalk.u64_in _ (by omega), IntWalk.u64_in _ (by omega)]
  have e : (x : Int) * 256 = ((x * 256 : Nat) : Int) := by omega
  rw [e, bits_or_u64_nat _ _ (by omega) (by omega)]
  have := Nat.shiftLeft_add_eq_or_of_lt (b := b.toNat) (i := 8) (by omega) x
  rw [Nat.shiftLeft_eq] at this
  have e2 : (2 : Nat) ^ 8 = 256 := rfl
  rw [e2] at this
  rw [← this]

def NumPost (w : World) (b : Nat) (v : Value) (s : PS) (n : Nat) (e : Ending) (w' : World) : Prop :=
  InPost w b v s (.int .u64 (s.num n).1) (s.num n).2 e w'

set_option maxHeartbeats 400000 in
theorem num_ok (n : Nat) (hn1 : 1 ≤ n) (hn : n ≤ 8) (b : Nat) (v : Value) (s : PS) (w : World) (hb : Holds w (inBlk b v s.bad)) (hv : InV w b v s.rest) :
    Calls Try.prog 68 #[.pointer (some ⟨b, 0, none⟩), .int .i64 n] w (NumPost w b v s n) := by
  go_enter Try.func68, Try.ntmps68
  go_wp2_with fail
  refine (cut_ok n hn1 (by omega) b v s _ hb hv).mono ?_
  rintro e w1 ⟨p, v', rfl, hS, hsub, hp⟩
  have hlen : (s.cut n).1.length ≤ 8 := by
    unfold PS.cut
    split
    · simp
    · split
      · simp
      · simp; omega
  have hfin : ∀ w', St w [b] w' [inBlk b v' (s.cut n).2.bad] → NumPost w b v s n (.returned (.int .u64 (be (s.cut n).1))) w' := fun w' h => ⟨rfl, v', h, hsub⟩
  generalize (s.cut n).1 = l at *
  generalize (s.cut n).2 = s' at *
  replace hp := hp.st hS (.inl rfl)
  have hpp : ∃ a c, p = .slice a l.length c ∧ (∀ k x, l[k]? = some x → ∃ ad, a = some ad ∧ ad.spot = none ∧ w1.cell? ⟨ad.block, ad.off + k, none⟩ = some (.int .u8 x.toNat)) := by
    rcases hp with ⟨rfl, rfl⟩ | ⟨g, off, cap, cs, T, fr, rfl, hc, hm, hne, hg, hbs⟩
    · exact ⟨_, _, rfl, fun k x h => by simp at h⟩
    · refine ⟨_, _, rfl, fun k x h => ⟨_, rfl, rfl, ?_⟩⟩
      have := CellsAt.row (off := off) (n := l.length) hg k (.int .u8 x.toNat) (by rw [hbs]; simp [bs, h, B])
      rwa [add_zero] at this
  obtain ⟨a, c, rfl, hcell⟩ := hpp
  clear hp hsub hb hv
  have Hcell := Lib.hid hcell
  clear hcell
  go_wp2_with fail
  go_loop [5, 12] (fun t i => ∃ k : Nat, k ≤ l.length ∧ i = .int .i64 k ∧ t = .int .u64 (be (l.take k))) (fun _ i => l.length - (intOf i).toNat)
  case atStart => exact ⟨0, Nat.zero_le _, rfl, rfl⟩
  case round =>
    obtain ⟨k, hk, rfl, rfl⟩ := hrel
    by_cases hlt : k < l.length
    · obtain ⟨ad, rfl, hspot, hc⟩ := Hcell.out k l[k] (by simp)
      obtain ⟨g, off, spot⟩ := ad
      simp only at hspot hc
      subst hspot
      have hx : be (l.take k) < 72057594037927936 := by
        have h1 := be_take_lt l k hk
        have h2 : 256 ^ k ≤ 256 ^ 7 := Nat.pow_le_pow_right (by omega) (by omega)
        have h3 : (256 : Nat) ^ 7 = 72057594037927936 := by decide
        omega
      have hor := Lib.hid (or_byte (be (l.take k)) l[k] hx)
      clear hx
      go_wp2_with fail
      go_round
      case rel =>
        refine ⟨k + 1, by omega, by go_num, ?_⟩
        rw [hor.out, List.take_succ_eq_append_getElem hlt, be_snoc]
      case measure => simp [intOf]; omega
    · have hkl : k = l.length := by omega
      have ht : l.take k = l := by rw [hkl]; exact List.take_length
      rw [ht]
      clear hkl ht
      go_wp2_with fail
      go_ret
      exact hfin _ hS
end Go.Proofs.Ytldmkafobbemjaa
namespace Go.Proofs.Ytldmkafobbemjaa
set_option linter.unusedSimpArgs false
set_option linter.unusedVariables false
open Go Go.RowKit
set_option maxRecDepth 100000

theorem cut_len (n : Nat) (s : PS) : (s.cut n).1.length = n ∨ (s.cut n).1 = [] := by
  unfold PS.cut
  split
  · exact .inr rfl
  · split
    · exact .inr rfl
    · rename_i h1 h2; left; simp; omega
theorem num_lt (n : Nat) (s : PS) : (s.num n).1 < 256 ^ n := by
  unfold PS.num
  have := be_lt (s.cut n).1
  rcases cut_len n s with h | h
  · rwa [h] at this
  · rw [h]; simp [be]; exact Nat.pos_of_ne_zero (by simp)
theorem num1_lt (s : PS) : (s.num 1).1 ≤ 255 := by have := num_lt 1 s; omega
theorem num4_lt (s : PS) : (s.num 4).1 ≤ 4294967295 := by have := num_lt 4 s; omega
theorem num8_lt (s : PS) : (s.num 8).1 ≤ 18446744073709551615 := by
  have h := num_lt 8 s
  have e : (256 : Nat) ^ 8 = 18446744073709551616 := by decide
  rw [e] at h
  omega

theorem one_ok (b : Nat) (v : Value) (s : PS) (w : World) (hb : Holds w (inBlk b v s.bad)) (hv : InV w b v s.rest) :
    Calls Try.prog 46 #[.pointer (some ⟨b, 0, none⟩)] w (InPost w b v s (.int .u8 (s.num 1).1) (s.num 1).2) := by
  have hn := num1_lt s
  go_enter Try.func46, Try.ntmps46
  go_wp2_with fail
  refine (num_ok 1 (by omega) (by omega) b v s _ hb hv).mono ?_
  rintro e w1 ⟨rfl, h⟩
  go_wp2_with fail
  go_ret
  exact ⟨rfl, h⟩

theorem four_ok (b : Nat) (v : Value) (s : PS) (w : World) (hb : Holds w (inBlk b v s.bad)) (hv : InV w b v s.rest) :
    Calls Try.prog 38 #[.pointer (some ⟨b, 0, none⟩)] w (InPost w b v s (.int .u32 (s.num 4).1) (s.num 4).2) := by
  have hn := num4_lt s
  go_enter Try.func38, Try.ntmps38
  go_wp2_with fail
  refine (num_ok 4 (by omega) (by omega) b v s _ hb hv).mono ?_
  rintro e w1 ⟨rfl, h⟩
  go_wp2_with fail
  go_ret
  exact ⟨rfl, h⟩

theorem eight_ok (b : Nat) (v : Value) (s : PS) (w : World) (hb : Holds w (inBlk b v s.bad)) (hv : InV w b v s.rest) :
    Calls Try.prog 39 #[.pointer (some ⟨b, 0, none⟩)] w (InPost w b v s (.int .u64 (s.num 8).1) (s.num 8).2) := by
  go_enter Try.func39, Try.ntmps39
  go_wp2_with fail
  refine (num_ok 8 (by omega) (by omega) b v s _ hb hv).mono ?_
  rintro e w1 ⟨rfl, h⟩
  go_wp2_with fail
  go_ret
  exact ⟨rfl, h⟩

theorem many_ok (most : Nat) (hm : most ≤ 255) (b : Nat) (v : Value) (s : PS) (w : World) (hb : Holds w (inBlk b v s.bad)) (hv : InV w b v s.rest) :
    Calls Try.prog 40 #[.pointer (some ⟨b, 0, none⟩), .int .i64 most] w (InPost w b v s (.int .i64 (s.many most).1) (s.many most).2) := by
  have hn := num1_lt s
  by_cases hlt : most < (s.num 1).1
  · have hmany : s.many most = (0, (s.num 1).2.fail 8) := by simp [PS.many, hlt]
    rw [hmany]
    clear hmany
    go_enter Try.func40, Try.ntmps40
    go_wp2_with fail
    refine (one_ok b v s _ hb hv).mono ?_
    rintro e w1 ⟨rfl, v', hS, hsub⟩
    go_wp2_with fail
    refine (fail_ok b v' (s.num 1).2 8 _ (hS.get 0 rfl)).mono ?_
    rintro e w2 ⟨rfl, v'', hS2, hsub2⟩
    have hS3 := hS.call1 0 rfl hS2
    go_wp2_with fail
    go_ret
    exact ⟨rfl, v'', hS3, hsub.trans hsub2⟩
  · have hmany : s.many most = s.num 1 := by simp [PS.many, hlt]
    rw [hmany]
    clear hmany
    go_enter Try.func40, Try.ntmps40
    go_wp2_with fail
    refine (one_ok b v s _ hb hv).mono ?_
    rintro e w1 ⟨rfl, v', hS, hsub⟩
    go_wp2_with fail
    go_ret
    exact ⟨rfl, v', hS, hsub⟩

theorem end_ok (b : Nat) (v : Value) (s : PS) (hl : s.rest.length ≤ maxLen) (w : World) (hb : Holds w (inBlk b v s.bad)) (hv : InV w b v s.rest) :
    Calls Try.prog 29 #[.pointer (some ⟨b, 0, none⟩)] w (InPost w b v s (.int .i64 s.fin.bad) s.fin) := by
  have hl' := hl
  unfold maxLen at hl'
  by_cases hlt : 0 < s.rest.length
  · have hfin : s.fin = s.fail 10 := by simp [PS.fin, hlt]
    rw [hfin]
    clear hfin
    go_enter Try.func29, Try.ntmps29
    go_wp2_with fail
    refine (left_ok b v s.rest s.bad _ hb hv hl).mono ?_
    rintro e w1 ⟨rfl, rfl⟩
    go_wp2_with fail
    refine (fail_ok b v s 10 _ hb).mono ?_
    rintro e w1 ⟨rfl, v', hS, hsub⟩
    go_wp2_with fail
    refine (bad_ok b v' _ _ (hS.get 0 rfl)).mono ?_
    rintro e w1 ⟨rfl, rfl⟩
    go_wp2_with fail
    go_ret
    exact ⟨rfl, v', hS, hsub⟩
  · have hfin : s.fin = s := by simp [PS.fin, hlt]
    rw [hfin]
    clear hfin
    have h0 : s.rest.length ≤ 0 := by omega
    go_enter Try.func29, Try.ntmps29
    go_wp2_with fail
    refine (left_ok b v s.rest s.bad _ hb hv hl).mono ?_
    rintro e w1 ⟨rfl, rfl⟩
    go_wp2_with fail
    refine (bad_ok b v _ _ hb).mono ?_
    rintro e w1 ⟨rfl, rfl⟩
    go_wp2_with fail
    go_ret
    exact ⟨rfl, v, in_start hb, SubV.refl _ _⟩

end Go.Proofs.Ytldmkafobbemjaa
