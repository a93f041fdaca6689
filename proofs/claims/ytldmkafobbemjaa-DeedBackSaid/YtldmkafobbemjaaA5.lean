/-
  Comparing two values whose cells are all integers: they are one exactly if their cells are.
  The comparable types of the program, and when two values of them are one; a field of a struct value.
  Whether a memo has just what its kind has, as the program says it.
  A memo, as it is taken off bytes by the program.
-/
import Derived.Test.YtldmkafobbemjaaA4
import Derived.ChangeKeysEq
import Derived.Deep.DeepCutAuto
import Derived.Deep.CutBlock
namespace Go.Proofs.Ytldmkafobbemjaa
set_option linter.unusedSimpArgs false
set_option linter.unusedVariables false
open Go Go.RowKit
set_option maxRecDepth 100000

def LikeK : List IntKind → List Value → Prop
  | [], [] => True
  | k :: ks, v :: vs => (∃ n, v = .int k n) ∧ LikeK ks vs
  | _, _ => False

theorem LikeK.len : ∀ {ks : List IntKind} {cs : List Value}, LikeK ks cs → cs.length = ks.length
  | [], [], _ => rfl
  | k :: ks, v :: vs, h => by simp [LikeK.len h.2]
  | [], _ :: _, h => h.elim
  | _ :: _, [], h => h.elim

theorem LikeK.append : ∀ {ks ks' : List IntKind} {cs cs' : List Value}, LikeK ks cs → LikeK ks' cs' → LikeK (ks ++ ks') (cs ++ cs')
  | [], _, [], _, _, h' => h'
  | k :: ks, _, v :: vs, _, h, h' => ⟨h.1, LikeK.append h.2 h'⟩
  | [], _, _ :: _, _, h, _ => h.elim
  | _ :: _, _, [], _, h, _ => h.elim

theorem LikeK.split : ∀ (ks ks' : List IntKind) (cs : List Value), LikeK (ks ++ ks') cs → LikeK ks (cs.take ks.length) ∧ LikeK ks' (cs.drop ks.length)
  | [], _, cs, h => ⟨trivial, h⟩
  | k :: ks, ks', v :: vs, h => by
    have := LikeK.split ks ks' vs h.2
    exact ⟨⟨h.1, this.1⟩, this.2⟩
  | _ :: _, _, [], h => h.elim

def valT (agg : Bool) (cs : List Value) : Value := if agg then .agg cs.toArray else cs.headD undef

structure ETy (P : Program) (t : TypeId) (agg : Bool) (ks : List IntKind) (d : Nat) : Prop where
  ty : TyOK P t agg ks.length
  one : agg = false → ∃ k, ks = [k]
  eq : ∀ dd, d ≤ dd → ∀ (w : World) (cs cs' : List Value), LikeK ks cs → LikeK ks cs' → ∃ r : Bool, (Op.equalIn dd t (valT agg cs) (valT agg cs')).run P w = .ok r w ∧ (r = true ↔ cs = cs')

section
variable {P : Program}

theorem run_part {t : TypeId} {agg : Bool} {ks : List IntKind} {d : Nat} (h : ETy P t agg ks d) (w : World) (cs : List Value) (off : Nat) (hl : LikeK ks ((cs.drop off).take ks.length)) :
    (part t cs.toArray off).run P w = .ok (valT agg ((cs.drop off).take ks.length)) w := by
  cases agg with
  | true =>
    have e : cs.toArray.extract off (off + ks.length) = ((cs.drop off).take ks.length).toArray := by
      apply Array.ext'
      simp [List.extract]
    simp [part, Sem.run_bind, agg_run h.ty, size_run h.ty, valT, e]
  | false =>
    obtain ⟨k, rfl⟩ := h.one rfl
    have hlen := hl.len
    simp only [List.length_cons, List.length_nil, Nat.zero_add] at hlen hl ⊢
    cases hd : cs.drop off with
    | nil => rw [hd] at hlen; simp at hlen
    | cons v vs =>
      have hv : cs[off]? = some v := by
        have := List.getElem?_drop (xs := cs) (i := off) (j := 0)
        rw [hd] at this
        simpa using this.symm
      simp [part, Sem.run_bind, agg_run h.ty, valT, hv]

theorem ety_int {t : TypeId} {k : IntKind} (hu : P.underlying t = some (.int k)) (ht : TyOK P t false 1) : ETy P t false [k] 1 := by
  refine ⟨ht, fun _ => ⟨k, rfl⟩, ?_⟩
  intro dd hd w cs cs' h h'
  obtain ⟨n, rfl⟩ : ∃ n, dd = n + 1 := ⟨dd - 1, by omega⟩
  match cs, cs', h, h' with
  | [v], [v'], h, h' =>
    obtain ⟨⟨a, rfl⟩, _⟩ := h
    obtain ⟨⟨b, rfl⟩, _⟩ := h'
    refine ⟨a == b, ?_, ?_⟩
    · simp only [valT, Bool.false_eq_true, if_false, List.headD_cons]
      exact run_equalIn_int w n t k k a b hu
    · simp

theorem rep_len (n : Nat) (ks : List IntKind) : (List.replicate n ks).flatten.length = n * ks.length := by
  induction n with
  | zero => simp
  | succ n ih => rw [List.replicate_succ, List.flatten_cons, List.length_append, ih, Nat.add_mul]; omega

theorem like_rep (ks : List IntKind) : ∀ (n i : Nat) (cs : List Value), LikeK (List.replicate n ks).flatten cs → i < n → LikeK ks ((cs.drop (i * ks.length)).take ks.length)
  | 0, i, _, _, hi => by omega
  | n + 1, 0, cs, h, _ => by
    rw [List.replicate_succ, List.flatten_cons] at h
    have := (LikeK.split ks _ cs h).1
    simpa using this
  | n + 1, i + 1, cs, h, hi => by
    rw [List.replicate_succ, List.flatten_cons] at h
    have := like_rep ks n i _ (LikeK.split ks _ cs h).2 (by omega)
    rw [List.drop_drop] at this
    rw [Nat.add_mul]
    rw [show i * ks.length + 1 * ks.length = ks.length + i * ks.length by omega]
    exact this

theorem ety_array {t e : TypeId} {n : Nat} {agg : Bool} {ks : List IntKind} {d : Nat} (hu : P.underlying t = some (.array n e)) (he : ETy P e agg ks d) (ht : TyOK P t true (n * ks.length)) :
    ETy P t true (List.replicate n ks).flatten (d + 1) := by
  refine ⟨by rw [rep_len]; exact ht, (fun h => by cases h), ?_⟩
  intro dd hd w cs cs' h h'
  obtain ⟨m, rfl⟩ : ∃ m, dd = m + 1 := ⟨dd - 1, by omega⟩
  have hl := h.len
  have hl' := h'.len
  rw [rep_len] at hl hl'
  obtain ⟨i, hi, his⟩ : ∃ i, P.info? e = some i ∧ i.size = ks.length := by
    have := he.ty.size
    cases hq : P.info? e with
    | none => simp [hq] at this
    | some i => exact ⟨i, rfl, by simpa [hq] using this⟩
  have hc : P.cellsOf e = ks.length := by simp [Program.cellsOf, hi, his]
  simp only [valT, if_true]
  rw [run_equalIn_array w m cs.toArray cs'.toArray hu hi, hc]
  have key : ∀ q j, j + q = n → ∃ r : Bool, (Op.eqItems m e ks.length cs.toArray cs'.toArray (List.range' j q)).run P w = .ok r w ∧ (r = true ↔ cs.drop (j * ks.length) = cs'.drop (j * ks.length)) := by
    intro q
    induction q with
    | zero =>
      intro j hj
      refine ⟨true, by simp [Op.eqItems], ?_⟩
      rw [List.drop_eq_nil_of_le (by rw [hl, ← hj]; simp), List.drop_eq_nil_of_le (by rw [hl', ← hj]; simp)]
      simp
    | succ q ih =>
      intro j hj
      obtain ⟨r', hr', hiff'⟩ := ih (j + 1) (by omega)
      have a1 := like_rep ks n j cs h (by omega)
      have a2 := like_rep ks n j cs' h' (by omega)
      obtain ⟨r, hr, hiff⟩ := he.eq m (by omega) w _ _ a1 a2
      have s1 : cs.drop (j * ks.length) = (cs.drop (j * ks.length)).take ks.length ++ cs.drop ((j + 1) * ks.length) := by
        conv => lhs; rw [← List.take_append_drop ks.length (cs.drop (j * ks.length))]
        rw [List.drop_drop, Nat.add_mul, Nat.one_mul]
      have s2 : cs'.drop (j * ks.length) = (cs'.drop (j * ks.length)).take ks.length ++ cs'.drop ((j + 1) * ks.length) := by
        conv => lhs; rw [← List.take_append_drop ks.length (cs'.drop (j * ks.length))]
        rw [List.drop_drop, Nat.add_mul, Nat.one_mul]
      have hpair : cs.drop (j * ks.length) = cs'.drop (j * ks.length) ↔ ((cs.drop (j * ks.length)).take ks.length = (cs'.drop (j * ks.length)).take ks.length ∧ cs.drop ((j + 1) * ks.length) = cs'.drop ((j + 1) * ks.length)) := by
        constructor
        · intro e1
          refine ⟨by rw [e1], ?_⟩
          have := congrArg (List.drop ks.length) e1
          rw [List.drop_drop, List.drop_drop] at this
          rw [Nat.add_mul, Nat.one_mul]
          exact this
        · rintro ⟨e1, e2⟩
          rw [s1, s2, e1, e2]
      simp only [List.range'_succ, Op.eqItems, Sem.run_bind, run_part he w cs _ a1, run_part he w cs' _ a2, Result.andThen_ok, hr]
      cases r with
      | false =>
        refine ⟨false, by simp, ?_⟩
        rw [hpair, ← hiff]
        simp
      | true =>
        refine ⟨r', by simpa using hr', ?_⟩
        rw [hpair, ← hiff, hiff']
        simp
  obtain ⟨r, hr, hiff⟩ := key n 0 (by omega)
  rw [List.range_eq_range']
  refine ⟨r, hr, ?_⟩
  simpa using hiff

inductive FieldsOK (P : Program) : List Field → Nat → List IntKind → Nat → Prop
  | nil {off d : Nat} : FieldsOK P [] off [] d
  | cons {f : Field} {fs : List Field} {off d : Nat} {agg : Bool} {ks ks' : List IntKind} {d' : Nat} : f.name ≠ "_" → f.offset = off → ETy P f.type agg ks d' → d' ≤ d → FieldsOK P fs (off + ks.length) ks' d → FieldsOK P (f :: fs) off (ks ++ ks') d

theorem run_fields {fs : List Field} {off : Nat} {ks : List IntKind} {d : Nat} (hf : FieldsOK P fs off ks d) (m : Nat) (hm : d ≤ m) (w : World) (cs cs' : List Value) (h : LikeK ks (cs.drop off)) (h' : LikeK ks (cs'.drop off)) :
    ∃ r : Bool, (Op.eqFields m cs.toArray cs'.toArray fs).run P w = .ok r w ∧ (r = true ↔ cs.drop off = cs'.drop off) := by
  induction hf with
  | nil =>
    refine ⟨true, by simp [Op.eqFields], ?_⟩
    have l := h.len
    have l' := h'.len
    rw [List.eq_nil_of_length_eq_zero l, List.eq_nil_of_length_eq_zero l']
    simp
  | @cons f fs off d agg ks ks' d' hn ho he hd _ ih =>
    obtain ⟨a1, b1⟩ := LikeK.split ks ks' _ h
    obtain ⟨a2, b2⟩ := LikeK.split ks ks' _ h'
    rw [List.drop_drop] at b1 b2
    obtain ⟨r', hr', hiff'⟩ := ih hm b1 b2
    obtain ⟨r, hr, hiff⟩ := he.eq m (by omega) w _ _ a1 a2
    have hpair : cs.drop off = cs'.drop off ↔ ((cs.drop off).take ks.length = (cs'.drop off).take ks.length ∧ cs.drop (off + ks.length) = cs'.drop (off + ks.length)) := by
      constructor
      · intro e1
        refine ⟨by rw [e1], ?_⟩
        have := congrArg (List.drop ks.length) e1
        rwa [List.drop_drop, List.drop_drop] at this
      · rintro ⟨e1, e2⟩
        rw [← List.take_append_drop ks.length (cs.drop off), ← List.take_append_drop ks.length (cs'.drop off), List.drop_drop, List.drop_drop, e1, e2]
    subst ho
    simp only [Op.eqFields, hn, ne_eq, not_false_eq_true, if_true, Sem.run_bind, run_part he w cs _ a1, run_part he w cs' _ a2, Result.andThen_ok, hr]
    cases r with
    | false =>
      refine ⟨false, by simp, ?_⟩
      rw [hpair, ← hiff]
      simp
    | true =>
      refine ⟨r', by simpa using hr', ?_⟩
      rw [hpair, ← hiff, hiff']
      simp

theorem ety_struct {t : TypeId} {fs : Array Field} {ks : List IntKind} {d : Nat} (hu : P.underlying t = some (.struct fs)) (hp : P.stoodInHeld t = false) (hf : FieldsOK P fs.toList 0 ks d) (ht : TyOK P t true ks.length) :
    ETy P t true ks (d + 1) := by
  refine ⟨ht, (fun h => by cases h), ?_⟩
  intro dd hd w cs cs' h h'
  obtain ⟨m, rfl⟩ : ∃ m, dd = m + 1 := ⟨dd - 1, by omega⟩
  have hfs : P.fieldsOf t = fs := by simp [Program.fieldsOf, hu]
  simp only [valT, if_true]
  rw [run_equalIn_struct w m t cs.toArray cs'.toArray (by rw [hfs]; exact hu) hp, hfs]
  have := run_fields hf m (by omega) w cs cs' (by simpa using h) (by simpa using h')
  simpa using this

/-- '==' and '!=' of two such values. -/
theorem owp_eql {Q : Exit → Act → World → Prop} {K : Act → World → Prop} {a : Act} {w : World} {o : Oper} {t ty : TypeId} {x y : Operand} (ho : o.op = .binOp .eql t x y ty) {ks : List IntKind} {d : Nat}
    (he : ETy P t true ks d) (hd : d ≤ 10000) (hg : P.eqGuardType P.depth t = false) {cs cs' : List Value} (hx : a.eval x = .agg cs.toArray) (hy : a.eval y = .agg cs'.toArray) (hl : LikeK ks cs) (hl' : LikeK ks cs')
    (b : Bool) (hb : b = true ↔ cs = cs') (hk : K (a.put o.dst (.bool b)) w) : o.wp P a w K Q := by
  obtain ⟨r, hr, hiff⟩ := he.eq 10000 hd w cs cs' hl hl'
  have hrb : r = b := by
    cases r <;> cases b <;> simp_all
  subst hrb
  refine owp_val (v := .bool r) (w1 := w) ?_ hk
  simp only [valT, if_true] at hr
  unfold execOp
  simp only [ho, hx, hy, Sem.run_bind, run_eqGuard_agg w .eql t x y cs.toArray cs'.toArray hg, Result.andThen_ok, run_eql_struct, hr, Sem.run_pure]

theorem owp_neq {Q : Exit → Act → World → Prop} {K : Act → World → Prop} {a : Act} {w : World} {o : Oper} {t ty : TypeId} {x y : Operand} (ho : o.op = .binOp .neq t x y ty) {ks : List IntKind} {d : Nat}
    (he : ETy P t true ks d) (hd : d ≤ 10000) (hg : P.eqGuardType P.depth t = false) {cs cs' : List Value} (hx : a.eval x = .agg cs.toArray) (hy : a.eval y = .agg cs'.toArray) (hl : LikeK ks cs) (hl' : LikeK ks cs')
    (b : Bool) (hb : b = true ↔ cs ≠ cs') (hk : K (a.put o.dst (.bool b)) w) : o.wp P a w K Q := by
  obtain ⟨r, hr, hiff⟩ := he.eq 10000 hd w cs cs' hl hl'
  have hrb : (!r) = b := by
    cases r <;> cases b <;> simp_all
  subst hrb
  refine owp_val (v := .bool (!r)) (w1 := w) ?_ hk
  simp only [valT, if_true] at hr
  unfold execOp
  simp only [ho, hx, hy, Sem.run_bind, run_eqGuard_agg w .neq t x y cs.toArray cs'.toArray hg, Result.andThen_ok, run_neq_struct, hr, Sem.run_pure]

end
end Go.Proofs.Ytldmkafobbemjaa
namespace Go.Proofs.Ytldmkafobbemjaa
set_option linter.unusedSimpArgs false
set_option linter.unusedVariables false
open Go Go.RowKit
set_option maxRecDepth 100000

def rep8 (n : Nat) : List IntKind := List.replicate n .u8
theorem rep8_flat (n m : Nat) : (List.replicate n (rep8 m)).flatten = rep8 (n * m) := by simp [rep8]
theorem rep8_len (n : Nat) : (rep8 n).length = n := by simp [rep8]
theorem like_bs (l : List UInt8) : LikeK (rep8 l.length) (bs l) := by
  induction l with
  | nil => trivial
  | cons b l ih => exact ⟨⟨_, rfl⟩, ih⟩
theorem like_bs' {n : Nat} (l : List UInt8) (h : l.length = n) : LikeK (rep8 n) (bs l) := h ▸ like_bs l

theorem e_u8 : ETy Try.prog 5 false [.u8] 1 := ety_int Try.underlying5 inferInstance
theorem e_int : ETy Try.prog 3 false [.i64] 1 := ety_int Try.underlying3 inferInstance
theorem e_u32 : ETy Try.prog 26 false [.u32] 1 := ety_int Try.underlying26 inferInstance
theorem e_u64 : ETy Try.prog 27 false [.u64] 1 := ety_int Try.underlying27 inferInstance
theorem e_side : ETy Try.prog 83 false [.i64] 1 := ety_int Try.underlying83 inferInstance
theorem e_bytes {P : Program} {t e : TypeId} {n : Nat} (hu : P.underlying t = some (.array n e)) (he : ETy P e false [.u8] 1) (ht : TyOK P t true n) : ETy P t true (rep8 n) 2 := by
  have h := ety_array hu he (by simpa using ht)
  have e : (List.replicate n [IntKind.u8]).flatten = rep8 n := by
    simp [rep8]
  rwa [e] at h
theorem e_arr {P : Program} {t e : TypeId} {n m d : Nat} (hu : P.underlying t = some (.array n e)) (he : ETy P e true (rep8 m) d) (ht : TyOK P t true (n * m)) : ETy P t true (rep8 (n * m)) (d + 1) := by
  have h := ety_array hu he (by rw [rep8_len]; exact ht)
  rwa [rep8_flat] at h

theorem e_hash : ETy Try.prog 84 true (rep8 32) 2 := e_bytes Try.underlying84 e_u8 inferInstance
theorem e_digest : ETy Try.prog 50 true (rep8 32) 2 := e_bytes Try.underlying50 e_u8 inferInstance
theorem e_arr32 : ETy Try.prog 22 true (rep8 32) 2 := e_bytes Try.underlying22 e_u8 inferInstance
theorem e_piece : ETy Try.prog 33 true (rep8 16) 2 := e_bytes Try.underlying33 e_u8 inferInstance
theorem e_pieceR : ETy Try.prog 60 true (rep8 16) 2 := e_bytes Try.underlying60 e_u8 inferInstance
theorem e_pieces : ETy Try.prog 34 true (rep8 512) 3 := e_arr (n := 32) (m := 16) Try.underlying34 e_piece inferInstance
theorem e_piecesR : ETy Try.prog 61 true (rep8 512) 3 := e_arr (n := 32) (m := 16) Try.underlying61 e_pieceR inferInstance

def kLSig : List IntKind := rep8 512 ++ (rep8 512 ++ [])
def kCond : List IntKind := [.u64] ++ ([.i64] ++ ([.u64] ++ (rep8 32 ++ ([.u64] ++ []))))
def kOp : List IntKind := [.i64] ++ ([.u64] ++ (kCond ++ ([.u64] ++ [])))
def kHop : List IntKind := [.u32] ++ ([.u64] ++ ([.u64] ++ []))
theorem kLSig_len : kLSig.length = 1024 := by simp [kLSig, rep8_len]
theorem kCond_len : kCond.length = 36 := by simp [kCond, rep8_len]
theorem kOp_len : kOp.length = 39 := by simp [kOp, kCond_len]

theorem e_lsig : ETy Try.prog 36 true kLSig 4 :=
  ety_struct Try.underlying36 (by kernel_rfl) (.cons (by simp) rfl e_pieces (by omega) (.cons (by simp) (by simp [rep8_len]) e_pieces (by omega) .nil)) (by rw [kLSig_len]; infer_instance)
theorem e_lsigR : ETy Try.prog 63 true kLSig 4 :=
  ety_struct Try.underlying63 (by kernel_rfl) (.cons (by simp) rfl e_piecesR (by omega) (.cons (by simp) (by simp [rep8_len]) e_piecesR (by omega) .nil)) (by rw [kLSig_len]; infer_instance)
theorem e_cond : ETy Try.prog 86 true kCond 3 :=
  ety_struct Try.underlying86 (by kernel_rfl) (.cons (by simp) rfl e_u64 (by omega) (.cons (by simp) rfl e_side (by omega) (.cons (by simp) rfl e_u64 (by omega) (.cons (by simp) rfl e_hash (by omega) (.cons (by simp) (by simp [rep8_len]) e_u64 (by omega) .nil))))) (by rw [kCond_len]; infer_instance)
theorem e_condR : ETy Try.prog 91 true kCond 3 :=
  ety_struct Try.underlying91 (by kernel_rfl) (.cons (by simp) rfl e_u64 (by omega) (.cons (by simp) rfl e_int (by omega) (.cons (by simp) rfl e_u64 (by omega) (.cons (by simp) rfl e_arr32 (by omega) (.cons (by simp) (by simp [rep8_len]) e_u64 (by omega) .nil))))) (by rw [kCond_len]; infer_instance)
theorem e_op : ETy Try.prog 88 true kOp 4 :=
  ety_struct Try.underlying88 (by kernel_rfl) (.cons (by simp) rfl e_int (by omega) (.cons (by simp) rfl e_u64 (by omega) (.cons (by simp) rfl e_cond (by omega) (.cons (by simp) (by simp [kCond_len]) e_u64 (by omega) .nil)))) (by rw [kOp_len]; infer_instance)
theorem e_opR : ETy Try.prog 93 true kOp 4 :=
  ety_struct Try.underlying93 (by kernel_rfl) (.cons (by simp) rfl e_int (by omega) (.cons (by simp) rfl e_u64 (by omega) (.cons (by simp) rfl e_condR (by omega) (.cons (by simp) (by simp [kCond_len]) e_u64 (by omega) .nil)))) (by rw [kOp_len]; infer_instance)
theorem Cond.like (c : Cond) (h : c.hash.length = 32) : LikeK kCond c.cells :=
  show LikeK (.u64 :: .i64 :: .u64 :: (rep8 32 ++ [.u64])) (_ :: _ :: _ :: (bs c.hash ++ [_])) from
  ⟨⟨_, rfl⟩, ⟨_, rfl⟩, ⟨_, rfl⟩, LikeK.append (like_bs' c.hash h) ⟨⟨_, rfl⟩, trivial⟩⟩
theorem Oop.like (c : Oop) (h : c.cond.hash.length = 32) : LikeK kOp c.cells :=
  show LikeK (.i64 :: .u64 :: (kCond ++ [.u64])) (_ :: _ :: (c.cond.cells ++ [_])) from
  ⟨⟨_, rfl⟩, ⟨_, rfl⟩, LikeK.append (Cond.like c.cond h) ⟨⟨_, rfl⟩, trivial⟩⟩
theorem LSig.like (l : LSig) (h1 : l.shown.length = 512) (h2 : l.other.length = 512) : LikeK kLSig l.cells :=
  LikeK.append (like_bs' _ h1) (by rw [List.append_nil]; exact like_bs' _ h2)
theorem Hop.like (h : Hop) : LikeK kHop h.cells := ⟨⟨_, rfl⟩, ⟨_, rfl⟩, ⟨_, rfl⟩, trivial⟩

theorem Cond.cells_inj (c d : Cond) (h1 : c.hash.length = 32) (h2 : d.hash.length = 32) (h : c.cells = d.cells) : c = d := by
  obtain ⟨a1, a2, a3, a4, a5⟩ := c
  obtain ⟨b1, b2, b3, b4, b5⟩ := d
  simp only [Cond.cells, List.cons_append, List.nil_append, List.cons.injEq, Value.int.injEq, true_and] at h
  obtain ⟨e1, e2, e3, e4⟩ := h
  have hl : (bs a4).length = (bs b4).length := by rw [bs_length, bs_length]; exact h1.trans h2.symm
  obtain ⟨e5, e6⟩ := List.append_inj e4 hl
  simp at e6
  have e7 := bs_inj e5
  have e8 : a1 = b1 := by omega
  have e9 : a3 = b3 := by omega
  have e10 : a5 = b5 := by omega
  subst e2 e7 e8 e9 e10
  rfl
theorem Oop.cells_inj (c d : Oop) (h1 : c.cond.hash.length = 32) (h2 : d.cond.hash.length = 32) (h : c.cells = d.cells) : c = d := by
  obtain ⟨a1, a2, a3, a4⟩ := c
  obtain ⟨b1, b2, b3, b4⟩ := d
  simp only [Oop.cells, List.cons_append, List.nil_append, List.cons.injEq, Value.int.injEq, true_and] at h
  obtain ⟨e1, e2, e3⟩ := h
  have hl : a3.cells.length = b3.cells.length := by rw [Cond.len _ h1, Cond.len _ h2]
  obtain ⟨e4, e5⟩ := List.append_inj e3 hl
  simp at e5
  have e6 := Cond.cells_inj a3 b3 h1 h2 e4
  have e7 : a2 = b2 := by omega
  have e8 : a4 = b4 := by omega
  subst e1 e6 e7 e8
  rfl
theorem LSig.cells_inj (c d : LSig) (h1 : c.shown.length = d.shown.length) (h : c.cells = d.cells) : c = d := by
  obtain ⟨a1, a2⟩ := c
  obtain ⟨b1, b2⟩ := d
  simp only [LSig.cells] at h
  obtain ⟨e1, e2⟩ := List.append_inj h (by rw [bs_length, bs_length]; exact h1)
  rw [bs_inj e1, bs_inj e2]
theorem Hop.cells_inj (c d : Hop) (h : c.cells = d.cells) : c = d := by
  obtain ⟨a1, a2, a3⟩ := c
  obtain ⟨b1, b2, b3⟩ := d
  simp only [Hop.cells, List.cons.injEq, Value.int.injEq, true_and, and_true] at h
  obtain ⟨e1, e2, e3⟩ := h
  have e4 : a1 = b1 := by omega
  have e5 : a2 = b2 := by omega
  have e6 : a3 = b3 := by omega
  subst e4 e5 e6
  rfl
theorem Oop.eqz_iff (o : Oop) (h : o.cond.hash.length = 32) : o.eqz = true ↔ o.cells = Oop.zero.cells := by
  constructor
  · intro e
    obtain ⟨a1, a2, ⟨b1, b2, b3, b4, b5⟩, a4⟩ := o
    simp only [Oop.eqz, Cond.eqz, Bool.and_eq_true, beq_iff_eq] at e
    obtain ⟨⟨⟨e1, e2⟩, ⟨⟨⟨e3, e4⟩, e5⟩, e6⟩, e7⟩, e8⟩ := e
    subst e1 e2 e3 e4 e5 e6 e7 e8
    rfl
  · intro e
    rw [Oop.cells_inj o Oop.zero h (zb_length 32) e]
    simp [Oop.eqz, Cond.eqz, Oop.zero, Cond.zero]
def LSig.eqz (l : LSig) : Bool := l.shown == zb 512 && l.other == zb 512
theorem LSig.eqz_iff (l : LSig) (h : l.shown.length = 512) : l.eqz = true ↔ l.cells = LSig.zero.cells := by
  constructor
  · intro e
    simp only [LSig.eqz, Bool.and_eq_true, beq_iff_eq] at e
    simp only [LSig.cells, e.1, e.2, LSig.zero]
  · intro e
    rw [LSig.cells_inj l LSig.zero (by rw [h]; exact (zb_length 512).symm) e]
    simp [LSig.eqz, LSig.zero]

/-- A field of a struct value. -/
class FieldOK (P : Program) (t : TypeId) (i : Nat) (fty : outParam TypeId) (off : outParam Nat) : Prop where
  f : (match P.underlying t with | some (.struct fs) => (fs[i]?).map (fun f => (f.type, f.offset)) | _ => none) = some (fty, off)

theorem owp_field {P : Program} {Q : Exit → Act → World → Prop} {K : Act → World → Prop} {a : Act} {w : World} {o : Oper} {t : TypeId} {x : Operand} {i : Nat} (ho : o.op = .field t x i)
    {fty : TypeId} {off : Nat} [hF : FieldOK P t i fty off] {n : Nat} [hT : TyOK P fty true n] {cs : List Value} (hx : a.eval x = .agg cs.toArray) {vs : List Value} (hv : (cs.drop off).take n = vs)
    (hk : K (a.put o.dst (.agg vs.toArray)) w) : o.wp P a w K Q := by
  refine owp_val (v := .agg vs.toArray) (w1 := w) ?_ hk
  obtain ⟨hF⟩ := hF
  cases hu : P.underlying t with
  | none => simp [hu] at hF
  | some d =>
    cases d <;> simp only [hu] at hF <;> try (cases hF; done)
    rename_i fs
    cases hi : fs[i]? with
    | none => simp [hi] at hF
    | some f =>
      simp [hi] at hF
      obtain ⟨rfl, rfl⟩ := hF
      have e : cs.toArray.extract f.offset (f.offset + n) = vs.toArray := by
        apply Array.ext'
        simpa [List.extract] using hv
      unfold execOp
      simp [ho, hx, Instr.field, run_underlying hu, hi, asAgg, part, agg_run hT, size_run hT, e]
      exact hv

end Go.Proofs.Ytldmkafobbemjaa
namespace Go.Proofs.Ytldmkafobbemjaa
set_option linter.unusedSimpArgs false
set_option linter.unusedVariables false
open Go Go.RowKit
set_option maxRecDepth 100000
set_option maxHeartbeats 2000000

structure Memo.Fit (m : Memo) : Prop where
  hash : m.op.cond.hash.length = 32
  shown : m.sig.l.shown.length = 512
  other : m.sig.l.other.length = 512
theorem Memo.Fit.op {m : Memo} (h : m.Fit) : m.op.cells.length = 39 := by simp [Oop.cells, Cond.len _ h.hash]
theorem Memo.Fit.l {m : Memo} (h : m.Fit) : m.sig.l.cells.length = 1024 := by simp [LSig.cells, bs_length, h.shown, h.other]
theorem Memo.Fit.len {m : Memo} (h : m.Fit) (tv wv : Value) : (m.cells tv wv).length = 1069 := by simp [Memo.cells, Sig.cells, h.op, h.l]
theorem Memo.g0 (m : Memo) (tv wv : Value) : (m.cells tv wv)[0]? = some (.int .i64 m.kind) := rfl
theorem Memo.g1 (m : Memo) (tv wv : Value) : (m.cells tv wv)[1]? = some (.int .u32 m.channel) := rfl
theorem Memo.g2 (m : Memo) (tv wv : Value) : (m.cells tv wv)[2]? = some (.int .u64 m.round) := rfl
theorem Memo.g3 (m : Memo) (tv wv : Value) : (m.cells tv wv)[3]? = some (.int .i64 m.op.kind) := rfl
theorem Memo.g6 (m : Memo) (tv wv : Value) : (m.cells tv wv)[6]? = some (.int .i64 m.op.cond.side) := rfl
theorem Memo.g42 {m : Memo} (h : m.Fit) (tv wv : Value) : (m.cells tv wv)[42]? = some tv := by
  simp [Memo.cells, List.getElem?_append, h.op]
theorem Memo.g1067 {m : Memo} (h : m.Fit) (tv wv : Value) : (m.cells tv wv)[1067]? = some (.int .u32 m.sig.key) := by
  simp [Memo.cells, Sig.cells, List.getElem?_append, h.op, h.l]
theorem Memo.g1068 {m : Memo} (h : m.Fit) (tv wv : Value) : (m.cells tv wv)[1068]? = some wv := by
  simp [Memo.cells, Sig.cells, List.getElem?_append, h.op, h.l]
theorem Memo.gop {m : Memo} (h : m.Fit) (tv wv : Value) : ((m.cells tv wv).drop 3).take 39 = m.op.cells := by
  simp [Memo.cells, h.op]
theorem Memo.gl {m : Memo} (h : m.Fit) (tv wv : Value) : ((m.cells tv wv).drop 43).take 1024 = m.sig.l.cells := by
  have e : (m.cells tv wv).drop 43 = m.sig.l.cells ++ [.int .u32 m.sig.key, wv] := by
    have e1 : m.cells tv wv = ([.int .i64 m.kind, .int .u32 m.channel, .int .u64 m.round] ++ m.op.cells ++ [tv]) ++ (m.sig.l.cells ++ [.int .u32 m.sig.key, wv]) := by simp [Memo.cells, Sig.cells]
    rw [e1, List.drop_left' (by simp [h.op])]
  rw [e, List.take_left' h.l]
theorem Memo.Fit.zero : Memo.zero.Fit := ⟨zb_length 32, zb_length 512, zb_length 512⟩

instance fld_sig : FieldOK Try.prog 39 0 36 0 := ⟨by kernel_rfl⟩
theorem gd_op : Try.prog.eqGuardType Try.prog.depth 88 = false := by kernel_rfl
theorem gd_lsig : Try.prog.eqGuardType Try.prog.depth 36 = false := by kernel_rfl
theorem sig0_l : ((Sig.zero.cells (.slice none 0 0)).drop 0).take 1024 = LSig.zero.cells := by
  simp [Sig.cells, Sig.zero, lzero_len]

structure Memo.At (m : Memo) (cs : List Value) (tv wv : Value) : Prop where
  eq : cs = m.cells tv wv
  fit : m.Fit
section
variable {m : Memo} {cs : List Value} {tv wv : Value} (h : m.At cs tv wv)
include h
theorem Memo.At.len : cs.length = 1069 := by rw [h.eq]; exact h.fit.len _ _
theorem Memo.At.g0 : cs[0]? = some (.int .i64 m.kind) := by rw [h.eq]; exact Memo.g0 _ _ _
theorem Memo.At.g1 : cs[1]? = some (.int .u32 m.channel) := by rw [h.eq]; exact Memo.g1 _ _ _
theorem Memo.At.g2 : cs[2]? = some (.int .u64 m.round) := by rw [h.eq]; exact Memo.g2 _ _ _
theorem Memo.At.g3 : cs[3]? = some (.int .i64 m.op.kind) := by rw [h.eq]; exact Memo.g3 _ _ _
theorem Memo.At.g6 : cs[6]? = some (.int .i64 m.op.cond.side) := by rw [h.eq]; exact Memo.g6 _ _ _
theorem Memo.At.g42 : cs[42]? = some tv := by rw [h.eq]; exact Memo.g42 h.fit _ _
theorem Memo.At.g1067 : cs[1067]? = some (.int .u32 m.sig.key) := by rw [h.eq]; exact Memo.g1067 h.fit _ _
theorem Memo.At.g1068 : cs[1068]? = some wv := by rw [h.eq]; exact Memo.g1068 h.fit _ _
theorem Memo.At.gop : (cs.drop 3).take 39 = m.op.cells := by rw [h.eq]; exact Memo.gop h.fit _ _
theorem Memo.At.gl : (cs.drop 43).take 1024 = m.sig.l.cells := by rw [h.eq]; exact Memo.gl h.fit _ _
end
theorem natz (n : Nat) : ((n : Int) == 0) = (n == 0) := by cases n <;> rfl
theorem le8 (n : Nat) : ((n : Int) ≤ 8) ↔ n ≤ 8 := by omega
theorem le7 (n : Nat) : ((n : Int) ≤ 7) ↔ n ≤ 7 := by omega
theorem lt8 (n : Nat) : (8 < (n : Int)) ↔ 8 < n := by omega
theorem lt7 (n : Nat) : (7 < (n : Int)) ↔ 7 < n := by omega

def RightPost (w : World) (m : Memo) (e : Ending) (w' : World) : Prop := e = .returned (.bool m.right) ∧ St w [] w' []

end Go.Proofs.Ytldmkafobbemjaa
namespace Go.Proofs.Ytldmkafobbemjaa
set_option linter.unusedSimpArgs false
set_option linter.unusedVariables false
open Go Go.RowKit
set_option maxRecDepth 100000
set_option maxHeartbeats 2000000

theorem Memo.one (m : Memo) (tv wv : Value) (ht : tv.oneCell' = true) (hw : wv.oneCell' = true) : ∀ x, x ∈ m.cells tv wv → x.oneCell' = true := by
  intro x hx
  simp only [Memo.cells, List.mem_append, List.mem_cons, List.not_mem_nil, or_false] at hx
  rcases hx with (((rfl | rfl | rfl) | h) | rfl) | h
  · rfl
  · rfl
  · rfl
  · exact Oop.one _ x h
  · exact ht
  · exact Sig.one _ _ hw x h
section
variable (k : Int) (c r : Nat) (o : Oop) (t : List Hop) (s : Sig) (tv wv : Value)
theorem Memo.set_round (r' : Nat) : (Memo.cells ⟨k, c, r, o, t, s⟩ tv wv).set 2 (.int .u64 r') = Memo.cells ⟨k, c, r', o, t, s⟩ tv wv := rfl
theorem Memo.set_op (h : o.cells.length = 39) (o' : Oop) : (Memo.cells ⟨k, c, r, o, t, s⟩ tv wv).take 3 ++ o'.cells ++ (Memo.cells ⟨k, c, r, o, t, s⟩ tv wv).drop (3 + 39) = Memo.cells ⟨k, c, r, o', t, s⟩ tv wv := by
  have e : Memo.cells ⟨k, c, r, o, t, s⟩ tv wv = ([.int .i64 k, .int .u32 c, .int .u64 r] ++ o.cells) ++ (tv :: s.cells wv) := by simp [Memo.cells]
  have e1 : (Memo.cells ⟨k, c, r, o, t, s⟩ tv wv).drop (3 + 39) = tv :: s.cells wv := by rw [e, List.drop_left' (by simp [h])]
  rw [e1]
  simp [Memo.cells]
theorem Memo.set_trail (h : o.cells.length = 39) (tv' : Value) (t' : List Hop) : (Memo.cells ⟨k, c, r, o, t, s⟩ tv wv).set 42 tv' = Memo.cells ⟨k, c, r, o, t', s⟩ tv' wv := by
  simp [Memo.cells, List.set_append, h]
theorem Memo.set_sig (h : o.cells.length = 39) (hs : s.l.cells.length = 1024) (wv' : Value) (s' : Sig) :
    (Memo.cells ⟨k, c, r, o, t, s⟩ tv wv).take 43 ++ s'.cells wv' ++ (Memo.cells ⟨k, c, r, o, t, s⟩ tv wv).drop (43 + 1026) = Memo.cells ⟨k, c, r, o, t, s'⟩ tv wv' := by
  have e : Memo.cells ⟨k, c, r, o, t, s⟩ tv wv = ([.int .i64 k, .int .u32 c, .int .u64 r] ++ o.cells ++ [tv]) ++ s.cells wv := by simp [Memo.cells]
  have e1 : (Memo.cells ⟨k, c, r, o, t, s⟩ tv wv).drop (43 + 1026) = [] := List.drop_eq_nil_of_le (by simp [e, h, Sig.cells, hs])
  have e2 : (Memo.cells ⟨k, c, r, o, t, s⟩ tv wv).take 43 = [.int .i64 k, .int .u32 c, .int .u64 r] ++ o.cells ++ [tv] := by rw [e, List.take_left' (by simp [h])]
  rw [e1, e2]
  simp [Memo.cells]
theorem Memo.lenmk (h : o.cells.length = 39) (hs : s.l.cells.length = 1024) : (Memo.cells ⟨k, c, r, o, t, s⟩ tv wv).length = 1069 := by
  simp [Memo.cells, Sig.cells, h, hs]
theorem Memo.lt (h : o.cells.length = 39) (hs : s.l.cells.length = 1024) {i : Nat} (hi : i < 1069) : i < (Memo.cells ⟨k, c, r, o, t, s⟩ tv wv).length := by
  rw [Memo.lenmk k c r o t s tv wv h hs]; exact hi
theorem Memo.le (h : o.cells.length = 39) (hs : s.l.cells.length = 1024) {i : Nat} (hi : i ≤ 1069) : i ≤ (Memo.cells ⟨k, c, r, o, t, s⟩ tv wv).length := by
  rw [Memo.lenmk k c r o t s tv wv h hs]; exact hi
end
theorem ozero_len : Oop.zero.cells.length = 39 := Oop.len Oop.zero (zb_length 32)
theorem takeOp_hash (s : PS) : (takeOp s).1.cond.hash.length = 32 := by
  simp only [takeOp]
  split
  · exact zb_length 32
  · exact takeCond_hash _
theorem takeSig_lens (s : PS) : (takeSig s).1.l.shown.length = 512 ∧ (takeSig s).1.l.other.length = 512 := by
  simp only [takeSig]
  split
  · exact ⟨zb_length 512, zb_length 512⟩
  · generalize ((s.num 4).2.many 8).2 = s'
    have h1 := shownOf_len 32 s'
    have h2 := otherOf_len 32 s'
    have e : (takeLamp s').1 = ⟨shownOf 32 s', otherOf 32 s'⟩ := by simp only [takeLamp, shownOf, otherOf]
    rw [e]
    exact ⟨h1, h2⟩
theorem readBody0 (ch : Nat) (s : PS) : readBody 0 ch s = (⟨(0 : Nat), ch, 0, Oop.zero, [], Sig.zero⟩, s) := rfl
theorem readBody1 (ch : Nat) (s : PS) : readBody 1 ch s = (⟨(1 : Nat), ch, (s.num 8).1, (takeOp (s.num 8).2).1, (takeTrail (takeOp (s.num 8).2).2).1, (takeSig (takeTrail (takeOp (s.num 8).2).2).2).1⟩, (takeSig (takeTrail (takeOp (s.num 8).2).2).2).2) := rfl
theorem readBody2 (ch : Nat) (s : PS) : readBody 2 ch s = (⟨(2 : Nat), ch, (s.num 8).1, Oop.zero, [], (takeSig (s.num 8).2).1⟩, (takeSig (s.num 8).2).2) := rfl
theorem readBody3 (k ch : Nat) (s : PS) (h0 : k ≠ 0) (h1 : k ≠ 1) (h2 : k ≠ 2) : readBody k ch s = (⟨k, ch, 0, Oop.zero, [], Sig.zero⟩, s.fail 10) := by
  simp [readBody, h0, h1, h2]
theorem Memo.Fit.zero' {k : Int} {c : Nat} : (Memo.mk k c 0 Oop.zero [] Sig.zero).Fit := ⟨zb_length 32, zb_length 512, zb_length 512⟩
/-- The reader's own copy of the bytes. -/
abbrev backBlk (g : Nat) (l : List UInt8) (sp : List Value) : Ent := some (g, bs l ++ sp, 5)
def OfPost (l : List UInt8) (w : World) (e : Ending) (w' : World) : Prop :=
  ∃ b g cap sp, e = .returned (.pointer (some ⟨b, 0, none⟩)) ∧ St w [] w' [inBlk b (.slice (some ⟨g, 0, none⟩) l.length cap) 0, backBlk g l sp] ∧ l.length ≤ cap ∧ cap ≤ maxLen
theorem back_inv {w0 w : World} {A : List Nat} {L : List Ent} {b g cap : Nat} {l : List UInt8} {sp : List Value} {v : Value} {bad : Int} (hS : St w0 A w (inBlk b v bad :: backBlk g l sp :: L)) (hc : l.length ≤ cap) (hm : cap ≤ maxLen) :
    InV w b (.slice (some ⟨g, 0, none⟩) l.length cap) l := by
  refine .inr ⟨g, 0, cap, _, _, _, rfl, hc, hm, ?_, hS.get 1 rfl _ _ _ rfl, by simp [bs_length]⟩
  rintro rfl
  have := nodup_other hS.nodup (i := 0) (j := 1) rfl rfl
  omega
theorem of_ok2 (u : Value) (l : List UInt8) (w : World) (hu : RowR w 1 u l.length (bs l)) (hl : l.length ≤ 1000000) :
    Calls Try.prog 14 #[u] w (OfPost l w) := by
  have hS := St.nil w
  go_enter Try.func14, Try.ntmps14
  have hl63 : 0 + l.length ≤ maxLen := by unfold maxLen; omega
  have hlb : (0 + l.length) * 1 ≤ 140737488355328 := by omega
  go_wp2_with (first | ((with_reducible show wpList _ _ _ (Oper.mk _ (Op.buildSlice _ _ _) _ _ _ _ :: _) _ _); refine wpl rfl ?_; refine (owp_bslice0 hS rfl ?_); clear hS; intro g0 w1 hS; try simp only [List.cons_append, List.nil_append, List.append_nil, List.set_cons_zero, List.set_cons_succ] at hS) | ((with_reducible show wpList _ _ _ (Oper.mk _ (Op.call (Call.mk (Callee.builtin Builtin.append) _ _)) _ _ _ _ :: _) _ _); refine wpl rfl ?_; refine (owp_append hS 0 rfl rfl rfl (RowV.lit 5 1 _ 0 [] rfl (Nat.zero_le _)) rfl (hu.st0 hS) (bs_one _) hl63 hlb ?_); clear hS; intro v' x' w2 hv' hS hnil; obtain ⟨g1, cap, sp, rfl, rfl, hlx, hcap, hcm⟩ := hv'.whole (hnil (.inr (by simp [Act.eval]))); clear hnil hv'; try simp only [List.cons_append, List.nil_append, List.append_nil, List.set_cons_zero, List.set_cons_succ] at hS) | ((with_reducible show wpList _ _ _ (Oper.mk _ (Op.box _ _) _ _ _ _ :: _) _ _); refine wpl rfl ?_; refine (owp_box hS rfl (vs := [_, _]) rfl ?_); clear hS; intro b w3 hS; try simp only [List.cons_append, List.nil_append, List.append_nil, List.set_cons_zero, List.set_cons_succ] at hS))
  go_ret
  refine ⟨b, g1, cap, sp, rfl, ?_, by simpa using hcap, hcm⟩
  have h := hS.pick [1, 0] rfl (by decide)
  simpa using h

theorem InV.le {w : World} {b : Nat} {v : Value} {l : List UInt8} (h : InV w b v l) : l.length ≤ maxLen := by
  rcases h with ⟨_, rfl⟩ | ⟨g, off, cap, cs, T, fr, hv, hc, hm, _⟩
  · exact Nat.zero_le _
  · omega

end Go.Proofs.Ytldmkafobbemjaa
