/-
  The comparable types of the program, and when two values of them are one; a field of a struct value.
-/
import Derived.Test.YtjgphbdffhmmgaaEq
namespace Go.Proofs.Ytjgphbdffhmmgaa
set_option linter.unusedSimpArgs false
set_option linter.unusedVariables false
open Go Go.RowKit
set_option maxRecDepth 100000

def rep8 (n : Nat) : List IntKind := List.replicate n .u8
theorem rep8_flat (n m : Nat) : (List.replicate n (rep8 m)).flatten = rep8 (n * m) := by simp [rep8]
theorem rep8_len (n : Nat) : (rep8 n).length = n := by simp [rep8]
theorem like_bs (l : List UInt8) : LikeK (rep8 l.length) (bs l) := by
  induction l with
  | nil => trivial
  | cons b l ih => exact ⟨⟨_, rfl⟩, ih⟩
theorem like_bs' {n : Nat} (l : List UInt8) (h : l.length = n) : LikeK (rep8 n) (bs l) := h ▸ like_bs l

theorem e_u8 : ETy Try.prog 5 false [.u8] 1 := ety_int Try.underlying5 inferInstance
theorem e_int : ETy Try.prog 3 false [.i64] 1 := ety_int Try.underlying3 inferInstance
theorem e_u32 : ETy Try.prog 24 false [.u32] 1 := ety_int Try.underlying24 inferInstance
theorem e_u64 : ETy Try.prog 25 false [.u64] 1 := ety_int Try.underlying25 inferInstance
theorem e_side : ETy Try.prog 26 false [.i64] 1 := ety_int Try.underlying26 inferInstance
theorem e_bytes {P : Program} {t e : TypeId} {n : Nat} (hu : P.underlying t = some (.array n e)) (he : ETy P e false [.u8] 1) (ht : TyOK P t true n) : ETy P t true (rep8 n) 2 := by
  have h := ety_array hu he (by simpa using ht)
  have e : (List.replicate n [IntKind.u8]).flatten = rep8 n := by
    simp [rep8]
  rwa [e] at h
theorem e_arr {P : Program} {t e : TypeId} {n m d : Nat} (hu : P.underlying t = some (.array n e)) (he : ETy P e true (rep8 m) d) (ht : TyOK P t true (n * m)) : ETy P t true (rep8 (n * m)) (d + 1) := by
  have h := ety_array hu he (by rw [rep8_len]; exact ht)
  rwa [rep8_flat] at h

theorem e_hash : ETy Try.prog 28 true (rep8 32) 2 := e_bytes Try.underlying28 e_u8 inferInstance
theorem e_digest : ETy Try.prog 111 true (rep8 32) 2 := e_bytes Try.underlying111 e_u8 inferInstance
theorem e_arr32 : ETy Try.prog 27 true (rep8 32) 2 := e_bytes Try.underlying27 e_u8 inferInstance
theorem e_piece : ETy Try.prog 35 true (rep8 16) 2 := e_bytes Try.underlying35 e_u8 inferInstance
theorem e_pieceR : ETy Try.prog 52 true (rep8 16) 2 := e_bytes Try.underlying52 e_u8 inferInstance
theorem e_pieces : ETy Try.prog 36 true (rep8 512) 3 := e_arr (n := 32) (m := 16) Try.underlying36 e_piece inferInstance
theorem e_piecesR : ETy Try.prog 53 true (rep8 512) 3 := e_arr (n := 32) (m := 16) Try.underlying53 e_pieceR inferInstance

def kLSig : List IntKind := rep8 512 ++ (rep8 512 ++ [])
def kCond : List IntKind := [.u64] ++ ([.i64] ++ ([.u64] ++ (rep8 32 ++ ([.u64] ++ []))))
def kOp : List IntKind := [.i64] ++ ([.u64] ++ (kCond ++ ([.u64] ++ [])))
def kHop : List IntKind := [.u32] ++ ([.u64] ++ ([.u64] ++ []))
theorem kLSig_len : kLSig.length = 1024 := by simp [kLSig, rep8_len]
theorem kCond_len : kCond.length = 36 := by simp [kCond, rep8_len]
theorem kOp_len : kOp.length = 39 := by simp [kOp, kCond_len]

theorem e_lsig : ETy Try.prog 38 true kLSig 4 :=
  ety_struct Try.underlying38 (by kernel_rfl) (.cons (by simp) rfl e_pieces (by omega) (.cons (by simp) (by simp [rep8_len]) e_pieces (by omega) .nil)) (by rw [kLSig_len]; infer_instance)
theorem e_lsigR : ETy Try.prog 55 true kLSig 4 :=
  ety_struct Try.underlying55 (by kernel_rfl) (.cons (by simp) rfl e_piecesR (by omega) (.cons (by simp) (by simp [rep8_len]) e_piecesR (by omega) .nil)) (by rw [kLSig_len]; infer_instance)
theorem e_cond : ETy Try.prog 30 true kCond 3 :=
  ety_struct Try.underlying30 (by kernel_rfl) (.cons (by simp) rfl e_u64 (by omega) (.cons (by simp) rfl e_side (by omega) (.cons (by simp) rfl e_u64 (by omega) (.cons (by simp) rfl e_hash (by omega) (.cons (by simp) (by simp [rep8_len]) e_u64 (by omega) .nil))))) (by rw [kCond_len]; infer_instance)
theorem e_condR : ETy Try.prog 48 true kCond 3 :=
  ety_struct Try.underlying48 (by kernel_rfl) (.cons (by simp) rfl e_u64 (by omega) (.cons (by simp) rfl e_int (by omega) (.cons (by simp) rfl e_u64 (by omega) (.cons (by simp) rfl e_arr32 (by omega) (.cons (by simp) (by simp [rep8_len]) e_u64 (by omega) .nil))))) (by rw [kCond_len]; infer_instance)
theorem e_op : ETy Try.prog 32 true kOp 4 :=
  ety_struct Try.underlying32 (by kernel_rfl) (.cons (by simp) rfl e_int (by omega) (.cons (by simp) rfl e_u64 (by omega) (.cons (by simp) rfl e_cond (by omega) (.cons (by simp) (by simp [kCond_len]) e_u64 (by omega) .nil)))) (by rw [kOp_len]; infer_instance)
theorem e_opR : ETy Try.prog 50 true kOp 4 :=
  ety_struct Try.underlying50 (by kernel_rfl) (.cons (by simp) rfl e_int (by omega) (.cons (by simp) rfl e_u64 (by omega) (.cons (by simp) rfl e_condR (by omega) (.cons (by simp) (by simp [kCond_len]) e_u64 (by omega) .nil)))) (by rw [kOp_len]; infer_instance)
theorem e_hopR : ETy Try.prog 97 true kHop 2 :=
  ety_struct Try.underlying97 (by kernel_rfl) (.cons (by simp) rfl e_u32 (by omega) (.cons (by simp) rfl e_u64 (by omega) (.cons (by simp) rfl e_u64 (by omega) .nil))) (by simp [kHop]; infer_instance)

theorem Cond.like (c : Cond) (h : c.hash.length = 32) : LikeK kCond c.cells :=
  show LikeK (.u64 :: .i64 :: .u64 :: (rep8 32 ++ [.u64])) (_ :: _ :: _ :: (bs c.hash ++ [_])) from
  ⟨⟨_, rfl⟩, ⟨_, rfl⟩, ⟨_, rfl⟩, LikeK.append (like_bs' c.hash h) ⟨⟨_, rfl⟩, trivial⟩⟩
theorem Oop.like (c : Oop) (h : c.cond.hash.length = 32) : LikeK kOp c.cells :=
  show LikeK (.i64 :: .u64 :: (kCond ++ [.u64])) (_ :: _ :: (c.cond.cells ++ [_])) from
  ⟨⟨_, rfl⟩, ⟨_, rfl⟩, LikeK.append (Cond.like c.cond h) ⟨⟨_, rfl⟩, trivial⟩⟩
theorem LSig.like (l : LSig) (h1 : l.shown.length = 512) (h2 : l.other.length = 512) : LikeK kLSig l.cells :=
  LikeK.append (like_bs' _ h1) (by rw [List.append_nil]; exact like_bs' _ h2)
theorem Hop.like (h : Hop) : LikeK kHop h.cells := ⟨⟨_, rfl⟩, ⟨_, rfl⟩, ⟨_, rfl⟩, trivial⟩

theorem Cond.cells_inj (c d : Cond) (h1 : c.hash.length = 32) (h2 : d.hash.length = 32) (h : c.cells = d.cells) : c = d := by
  obtain ⟨a1, a2, a3, a4, a5⟩ := c
  obtain ⟨b1, b2, b3, b4, b5⟩ := d
  simp only [Cond.cells, List.cons_append, List.nil_append, List.cons.injEq, Value.int.injEq, true_and] at h
  obtain ⟨e1, e2, e3, e4⟩ := h
  have hl : (bs a4).length = (bs b4).length := by rw [bs_length, bs_length]; exact h1.trans h2.symm
  obtain ⟨e5, e6⟩ := List.append_inj e4 hl
  simp at e6
  have e7 := bs_inj e5
  have e8 : a1 = b1 := by omega
  have e9 : a3 = b3 := by omega
  have e10 : a5 = b5 := by omega
  subst e2 e7 e8 e9 e10
  rfl
theorem Oop.cells_inj (c d : Oop) (h1 : c.cond.hash.length = 32) (h2 : d.cond.hash.length = 32) (h : c.cells = d.cells) : c = d := by
  obtain ⟨a1, a2, a3, a4⟩ := c
  obtain ⟨b1, b2, b3, b4⟩ := d
  simp only [Oop.cells, List.cons_append, List.nil_append, List.cons.injEq, Value.int.injEq, true_and] at h
  obtain ⟨e1, e2, e3⟩ := h
  have hl : a3.cells.length = b3.cells.length := by rw [Cond.len _ h1, Cond.len _ h2]
  obtain ⟨e4, e5⟩ := List.append_inj e3 hl
  simp at e5
  have e6 := Cond.cells_inj a3 b3 h1 h2 e4
  have e7 : a2 = b2 := by omega
  have e8 : a4 = b4 := by omega
  subst e1 e6 e7 e8
  rfl
theorem LSig.cells_inj (c d : LSig) (h1 : c.shown.length = d.shown.length) (h : c.cells = d.cells) : c = d := by
  obtain ⟨a1, a2⟩ := c
  obtain ⟨b1, b2⟩ := d
  simp only [LSig.cells] at h
  obtain ⟨e1, e2⟩ := List.append_inj h (by rw [bs_length, bs_length]; exact h1)
  rw [bs_inj e1, bs_inj e2]
theorem Hop.cells_inj (c d : Hop) (h : c.cells = d.cells) : c = d := by
  obtain ⟨a1, a2, a3⟩ := c
  obtain ⟨b1, b2, b3⟩ := d
  simp only [Hop.cells, List.cons.injEq, Value.int.injEq, true_and, and_true] at h
  obtain ⟨e1, e2, e3⟩ := h
  have e4 : a1 = b1 := by omega
  have e5 : a2 = b2 := by omega
  have e6 : a3 = b3 := by omega
  subst e4 e5 e6
  rfl
theorem Oop.eqz_iff (o : Oop) (h : o.cond.hash.length = 32) : o.eqz = true ↔ o.cells = Oop.zero.cells := by
  constructor
  · intro e
    obtain ⟨a1, a2, ⟨b1, b2, b3, b4, b5⟩, a4⟩ := o
    simp only [Oop.eqz, Cond.eqz, Bool.and_eq_true, beq_iff_eq] at e
    obtain ⟨⟨⟨e1, e2⟩, ⟨⟨⟨e3, e4⟩, e5⟩, e6⟩, e7⟩, e8⟩ := e
    subst e1 e2 e3 e4 e5 e6 e7 e8
    rfl
  · intro e
    rw [Oop.cells_inj o Oop.zero h (zb_length 32) e]
    simp [Oop.eqz, Cond.eqz, Oop.zero, Cond.zero]
def LSig.eqz (l : LSig) : Bool := l.shown == zb 512 && l.other == zb 512
theorem LSig.eqz_iff (l : LSig) (h : l.shown.length = 512) : l.eqz = true ↔ l.cells = LSig.zero.cells := by
  constructor
  · intro e
    simp only [LSig.eqz, Bool.and_eq_true, beq_iff_eq] at e
    simp only [LSig.cells, e.1, e.2, LSig.zero]
  · intro e
    rw [LSig.cells_inj l LSig.zero (by rw [h]; exact (zb_length 512).symm) e]
    simp [LSig.eqz, LSig.zero]

/-- A field of a struct value. -/
class FieldOK (P : Program) (t : TypeId) (i : Nat) (fty : outParam TypeId) (off : outParam Nat) : Prop where
  f : (match P.underlying t with | some (.struct fs) => (fs[i]?).map (fun f => (f.type, f.offset)) | _ => none) = some (fty, off)

theorem owp_field {P : Program} {Q : Exit → Act → World → Prop} {K : Act → World → Prop} {a : Act} {w : World} {o : Oper} {t : TypeId} {x : Operand} {i : Nat} (ho : o.op = .field t x i)
    {fty : TypeId} {off : Nat} [hF : FieldOK P t i fty off] {n : Nat} [hT : TyOK P fty true n] {cs : List Value} (hx : a.eval x = .agg cs.toArray) {vs : List Value} (hv : (cs.drop off).take n = vs)
    (hk : K (a.put o.dst (.agg vs.toArray)) w) : o.wp P a w K Q := by
  refine owp_val (v := .agg vs.toArray) (w1 := w) ?_ hk
  obtain ⟨hF⟩ := hF
  cases hu : P.underlying t with
  | none => simp [hu] at hF
  | some d =>
    cases d <;> simp only [hu] at hF <;> try (cases hF; done)
    rename_i fs
    cases hi : fs[i]? with
    | none => simp [hi] at hF
    | some f =>
      simp [hi] at hF
      obtain ⟨rfl, rfl⟩ := hF
      have e : cs.toArray.extract f.offset (f.offset + n) = vs.toArray := by
        apply Array.ext'
        simpa [List.extract] using hv
      unfold execOp
      simp [ho, hx, Instr.field, run_underlying hu, hi, asAgg, part, agg_run hT, size_run hT, e]
      exact hv

end Go.Proofs.Ytjgphbdffhmmgaa
