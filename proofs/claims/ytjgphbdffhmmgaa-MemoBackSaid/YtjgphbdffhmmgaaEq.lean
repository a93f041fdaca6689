/-
  Comparing two values whose cells are all integers: they are one exactly if their cells are.
-/
import Derived.Test.YtjgphbdffhmmgaaIn10
import Derived.ChangeKeysEq
namespace Go.Proofs.Ytjgphbdffhmmgaa
set_option linter.unusedSimpArgs false
set_option linter.unusedVariables false
open Go Go.RowKit
set_option maxRecDepth 100000

def LikeK : List IntKind → List Value → Prop
  | [], [] => True
  | k :: ks, v :: vs => (∃ n, v = .int k n) ∧ LikeK ks vs
  | _, _ => False

theorem LikeK.len : ∀ {ks : List IntKind} {cs : List Value}, LikeK ks cs → cs.length = ks.length
  | [], [], _ => rfl
  | k :: ks, v :: vs, h => by simp [LikeK.len h.2]
  | [], _ :: _, h => h.elim
  | _ :: _, [], h => h.elim

theorem LikeK.append : ∀ {ks ks' : List IntKind} {cs cs' : List Value}, LikeK ks cs → LikeK ks' cs' → LikeK (ks ++ ks') (cs ++ cs')
  | [], _, [], _, _, h' => h'
  | k :: ks, _, v :: vs, _, h, h' => ⟨h.1, LikeK.append h.2 h'⟩
  | [], _, _ :: _, _, h, _ => h.elim
  | _ :: _, _, [], _, h, _ => h.elim

theorem LikeK.split : ∀ (ks ks' : List IntKind) (cs : List Value), LikeK (ks ++ ks') cs → LikeK ks (cs.take ks.length) ∧ LikeK ks' (cs.drop ks.length)
  | [], _, cs, h => ⟨trivial, h⟩
  | k :: ks, ks', v :: vs, h => by
    have := LikeK.split ks ks' vs h.2
    exact ⟨⟨h.1, this.1⟩, this.2⟩
  | _ :: _, _, [], h => h.elim

def valT (agg : Bool) (cs : List Value) : Value := if agg then .agg cs.toArray else cs.headD undef

structure ETy (P : Program) (t : TypeId) (agg : Bool) (ks : List IntKind) (d : Nat) : Prop where
  ty : TyOK P t agg ks.length
  one : agg = false → ∃ k, ks = [k]
  eq : ∀ dd, d ≤ dd → ∀ (w : World) (cs cs' : List Value), LikeK ks cs → LikeK ks cs' → ∃ r : Bool, (Op.equalIn dd t (valT agg cs) (valT agg cs')).run P w = .ok r w ∧ (r = true ↔ cs = cs')

section
variable {P : Program}

theorem run_part {t : TypeId} {agg : Bool} {ks : List IntKind} {d : Nat} (h : ETy P t agg ks d) (w : World) (cs : List Value) (off : Nat) (hl : LikeK ks ((cs.drop off).take ks.length)) :
    (part t cs.toArray off).run P w = .ok (valT agg ((cs.drop off).take ks.length)) w := by
  cases agg with
  | true =>
    have e : cs.toArray.extract off (off + ks.length) = ((cs.drop off).take ks.length).toArray := by
      apply Array.ext'
      simp [List.extract]
    simp [part, Sem.run_bind, agg_run h.ty, size_run h.ty, valT, e]
  | false =>
    obtain ⟨k, rfl⟩ := h.one rfl
    have hlen := hl.len
    simp only [List.length_cons, List.length_nil, Nat.zero_add] at hlen hl ⊢
    cases hd : cs.drop off with
    | nil => rw [hd] at hlen; simp at hlen
    | cons v vs =>
      have hv : cs[off]? = some v := by
        have := List.getElem?_drop (xs := cs) (i := off) (j := 0)
        rw [hd] at this
        simpa using this.symm
      simp [part, Sem.run_bind, agg_run h.ty, valT, hv]

theorem ety_int {t : TypeId} {k : IntKind} (hu : P.underlying t = some (.int k)) (ht : TyOK P t false 1) : ETy P t false [k] 1 := by
  refine ⟨ht, fun _ => ⟨k, rfl⟩, ?_⟩
  intro dd hd w cs cs' h h'
  obtain ⟨n, rfl⟩ : ∃ n, dd = n + 1 := ⟨dd - 1, by omega⟩
  match cs, cs', h, h' with
  | [v], [v'], h, h' =>
    obtain ⟨⟨a, rfl⟩, _⟩ := h
    obtain ⟨⟨b, rfl⟩, _⟩ := h'
    refine ⟨a == b, ?_, ?_⟩
    · simp only [valT, Bool.false_eq_true, if_false, List.headD_cons]
      exact run_equalIn_int w n t k k a b hu
    · simp

theorem rep_len (n : Nat) (ks : List IntKind) : (List.replicate n ks).flatten.length = n * ks.length := by
  induction n with
  | zero => simp
  | succ n ih => rw [List.replicate_succ, List.flatten_cons, List.length_append, ih, Nat.add_mul]; omega

theorem like_rep (ks : List IntKind) : ∀ (n i : Nat) (cs : List Value), LikeK (List.replicate n ks).flatten cs → i < n → LikeK ks ((cs.drop (i * ks.length)).take ks.length)
  | 0, i, _, _, hi => by omega
  | n + 1, 0, cs, h, _ => by
    rw [List.replicate_succ, List.flatten_cons] at h
    have := (LikeK.split ks _ cs h).1
    simpa using this
  | n + 1, i + 1, cs, h, hi => by
    rw [List.replicate_succ, List.flatten_cons] at h
    have := like_rep ks n i _ (LikeK.split ks _ cs h).2 (by omega)
    rw [List.drop_drop] at this
    rw [Nat.add_mul]
    rw [show i * ks.length + 1 * ks.length = ks.length + i * ks.length by omega]
    exact this

theorem ety_array {t e : TypeId} {n : Nat} {agg : Bool} {ks : List IntKind} {d : Nat} (hu : P.underlying t = some (.array n e)) (he : ETy P e agg ks d) (ht : TyOK P t true (n * ks.length)) :
    ETy P t true (List.replicate n ks).flatten (d + 1) := by
  refine ⟨by rw [rep_len]; exact ht, (fun h => by cases h), ?_⟩
  intro dd hd w cs cs' h h'
  obtain ⟨m, rfl⟩ : ∃ m, dd = m + 1 := ⟨dd - 1, by omega⟩
  have hl := h.len
  have hl' := h'.len
  rw [rep_len] at hl hl'
  obtain ⟨i, hi, his⟩ : ∃ i, P.info? e = some i ∧ i.size = ks.length := by
    have := he.ty.size
    cases hq : P.info? e with
    | none => simp [hq] at this
    | some i => exact ⟨i, rfl, by simpa [hq] using this⟩
  have hc : P.cellsOf e = ks.length := by simp [Program.cellsOf, hi, his]
  simp only [valT, if_true]
  rw [run_equalIn_array w m cs.toArray cs'.toArray hu hi, hc]
  have key : ∀ q j, j + q = n → ∃ r : Bool, (Op.eqItems m e ks.length cs.toArray cs'.toArray (List.range' j q)).run P w = .ok r w ∧ (r = true ↔ cs.drop (j * ks.length) = cs'.drop (j * ks.length)) := by
    intro q
    induction q with
    | zero =>
      intro j hj
      refine ⟨true, by simp [Op.eqItems], ?_⟩
      rw [List.drop_eq_nil_of_le (by rw [hl, ← hj]; simp), List.drop_eq_nil_of_le (by rw [hl', ← hj]; simp)]
      simp
    | succ q ih =>
      intro j hj
      obtain ⟨r', hr', hiff'⟩ := ih (j + 1) (by omega)
      have a1 := like_rep ks n j cs h (by omega)
      have a2 := like_rep ks n j cs' h' (by omega)
      obtain ⟨r, hr, hiff⟩ := he.eq m (by omega) w _ _ a1 a2
      have s1 : cs.drop (j * ks.length) = (cs.drop (j * ks.length)).take ks.length ++ cs.drop ((j + 1) * ks.length) := by
        conv => lhs; rw [← List.take_append_drop ks.length (cs.drop (j * ks.length))]
        rw [List.drop_drop, Nat.add_mul, Nat.one_mul]
      have s2 : cs'.drop (j * ks.length) = (cs'.drop (j * ks.length)).take ks.length ++ cs'.drop ((j + 1) * ks.length) := by
        conv => lhs; rw [← List.take_append_drop ks.length (cs'.drop (j * ks.length))]
        rw [List.drop_drop, Nat.add_mul, Nat.one_mul]
      have hpair : cs.drop (j * ks.length) = cs'.drop (j * ks.length) ↔ ((cs.drop (j * ks.length)).take ks.length = (cs'.drop (j * ks.length)).take ks.length ∧ cs.drop ((j + 1) * ks.length) = cs'.drop ((j + 1) * ks.length)) := by
        constructor
        · intro e1
          refine ⟨by rw [e1], ?_⟩
          have := congrArg (List.drop ks.length) e1
          rw [List.drop_drop, List.drop_drop] at this
          rw [Nat.add_mul, Nat.one_mul]
          exact this
        · rintro ⟨e1, e2⟩
          rw [s1, s2, e1, e2]
      simp only [List.range'_succ, Op.eqItems, Sem.run_bind, run_part he w cs _ a1, run_part he w cs' _ a2, Result.andThen_ok, hr]
      cases r with
      | false =>
        refine ⟨false, by simp, ?_⟩
        rw [hpair, ← hiff]
        simp
      | true =>
        refine ⟨r', by simpa using hr', ?_⟩
        rw [hpair, ← hiff, hiff']
        simp
  obtain ⟨r, hr, hiff⟩ := key n 0 (by omega)
  rw [List.range_eq_range']
  refine ⟨r, hr, ?_⟩
  simpa using hiff

inductive FieldsOK (P : Program) : List Field → Nat → List IntKind → Nat → Prop
  | nil {off d : Nat} : FieldsOK P [] off [] d
  | cons {f : Field} {fs : List Field} {off d : Nat} {agg : Bool} {ks ks' : List IntKind} {d' : Nat} : f.name ≠ "_" → f.offset = off → ETy P f.type agg ks d' → d' ≤ d → FieldsOK P fs (off + ks.length) ks' d → FieldsOK P (f :: fs) off (ks ++ ks') d

theorem run_fields {fs : List Field} {off : Nat} {ks : List IntKind} {d : Nat} (hf : FieldsOK P fs off ks d) (m : Nat) (hm : d ≤ m) (w : World) (cs cs' : List Value) (h : LikeK ks (cs.drop off)) (h' : LikeK ks (cs'.drop off)) :
    ∃ r : Bool, (Op.eqFields m cs.toArray cs'.toArray fs).run P w = .ok r w ∧ (r = true ↔ cs.drop off = cs'.drop off) := by
  induction hf with
  | nil =>
    refine ⟨true, by simp [Op.eqFields], ?_⟩
    have l := h.len
    have l' := h'.len
    rw [List.eq_nil_of_length_eq_zero l, List.eq_nil_of_length_eq_zero l']
    simp
  | @cons f fs off d agg ks ks' d' hn ho he hd _ ih =>
    obtain ⟨a1, b1⟩ := LikeK.split ks ks' _ h
    obtain ⟨a2, b2⟩ := LikeK.split ks ks' _ h'
    rw [List.drop_drop] at b1 b2
    obtain ⟨r', hr', hiff'⟩ := ih hm b1 b2
    obtain ⟨r, hr, hiff⟩ := he.eq m (by omega) w _ _ a1 a2
    have hpair : cs.drop off = cs'.drop off ↔ ((cs.drop off).take ks.length = (cs'.drop off).take ks.length ∧ cs.drop (off + ks.length) = cs'.drop (off + ks.length)) := by
      constructor
      · intro e1
        refine ⟨by rw [e1], ?_⟩
        have := congrArg (List.drop ks.length) e1
        rwa [List.drop_drop, List.drop_drop] at this
      · rintro ⟨e1, e2⟩
        rw [← List.take_append_drop ks.length (cs.drop off), ← List.take_append_drop ks.length (cs'.drop off), List.drop_drop, List.drop_drop, e1, e2]
    subst ho
    simp only [Op.eqFields, hn, ne_eq, not_false_eq_true, if_true, Sem.run_bind, run_part he w cs _ a1, run_part he w cs' _ a2, Result.andThen_ok, hr]
    cases r with
    | false =>
      refine ⟨false, by simp, ?_⟩
      rw [hpair, ← hiff]
      simp
    | true =>
      refine ⟨r', by simpa using hr', ?_⟩
      rw [hpair, ← hiff, hiff']
      simp

theorem ety_struct {t : TypeId} {fs : Array Field} {ks : List IntKind} {d : Nat} (hu : P.underlying t = some (.struct fs)) (hp : P.stoodInHeld t = false) (hf : FieldsOK P fs.toList 0 ks d) (ht : TyOK P t true ks.length) :
    ETy P t true ks (d + 1) := by
  refine ⟨ht, (fun h => by cases h), ?_⟩
  intro dd hd w cs cs' h h'
  obtain ⟨m, rfl⟩ : ∃ m, dd = m + 1 := ⟨dd - 1, by omega⟩
  have hfs : P.fieldsOf t = fs := by simp [Program.fieldsOf, hu]
  simp only [valT, if_true]
  rw [run_equalIn_struct w m t cs.toArray cs'.toArray (by rw [hfs]; exact hu) hp, hfs]
  have := run_fields hf m (by omega) w cs cs' (by simpa using h) (by simpa using h')
  simpa using this

/-- '==' and '!=' of two such values. -/
theorem owp_eql {Q : Exit → Act → World → Prop} {K : Act → World → Prop} {a : Act} {w : World} {o : Oper} {t ty : TypeId} {x y : Operand} (ho : o.op = .binOp .eql t x y ty) {ks : List IntKind} {d : Nat}
    (he : ETy P t true ks d) (hd : d ≤ 10000) (hg : P.eqGuardType P.depth t = false) {cs cs' : List Value} (hx : a.eval x = .agg cs.toArray) (hy : a.eval y = .agg cs'.toArray) (hl : LikeK ks cs) (hl' : LikeK ks cs')
    (b : Bool) (hb : b = true ↔ cs = cs') (hk : K (a.put o.dst (.bool b)) w) : o.wp P a w K Q := by
  obtain ⟨r, hr, hiff⟩ := he.eq 10000 hd w cs cs' hl hl'
  have hrb : r = b := by
    cases r <;> cases b <;> simp_all
  subst hrb
  refine owp_val (v := .bool r) (w1 := w) ?_ hk
  simp only [valT, if_true] at hr
  unfold execOp
  simp only [ho, hx, hy, Sem.run_bind, run_eqGuard_agg w .eql t x y cs.toArray cs'.toArray hg, Result.andThen_ok, run_eql_struct, hr, Sem.run_pure]

theorem owp_neq {Q : Exit → Act → World → Prop} {K : Act → World → Prop} {a : Act} {w : World} {o : Oper} {t ty : TypeId} {x y : Operand} (ho : o.op = .binOp .neq t x y ty) {ks : List IntKind} {d : Nat}
    (he : ETy P t true ks d) (hd : d ≤ 10000) (hg : P.eqGuardType P.depth t = false) {cs cs' : List Value} (hx : a.eval x = .agg cs.toArray) (hy : a.eval y = .agg cs'.toArray) (hl : LikeK ks cs) (hl' : LikeK ks cs')
    (b : Bool) (hb : b = true ↔ cs ≠ cs') (hk : K (a.put o.dst (.bool b)) w) : o.wp P a w K Q := by
  obtain ⟨r, hr, hiff⟩ := he.eq 10000 hd w cs cs' hl hl'
  have hrb : (!r) = b := by
    cases r <;> cases b <;> simp_all
  subst hrb
  refine owp_val (v := .bool (!r)) (w1 := w) ?_ hk
  simp only [valT, if_true] at hr
  unfold execOp
  simp only [ho, hx, hy, Sem.run_bind, run_eqGuard_agg w .neq t x y cs.toArray cs'.toArray hg, Result.andThen_ok, run_neq_struct, hr, Sem.run_pure]

end
end Go.Proofs.Ytjgphbdffhmmgaa
