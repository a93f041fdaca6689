/-
  Struct literals with whole parts; a condition turned into the document's.
-/
import Derived.Test.YtjgphbdffhmmgaaRef10
import Derived.Test.YtjgphbdffhmmgaaHeld
namespace Go.Proofs.Ytjgphbdffhmmgaa
set_option linter.unusedSimpArgs false
set_option linter.unusedVariables false
open Go Go.RowKit
set_option maxRecDepth 100000
set_option maxHeartbeats 2000000

section
variable {P : Program}
theorem run_build {T : TypeId} {fields : Array Field} {pl : Array (Nat × Nat)} (hu : P.underlying T = some (.struct fields))
    (hp : ∀ w, (fields.mapM fun f => do pure (f.offset, ← sizeOf f.type) : Sem (Array (Nat × Nat))).run P w = .ok pl w) {zs : List Value} [hz : ZeroOK P T zs]
    {parts : List (Nat × Value)} {cs : List Value} (hf : Instr.fill (pl[·]?) zs.toArray parts = some cs.toArray) (w : World) :
    (Instr.build T parts.toArray).run P w = .ok (.agg cs.toArray) w := by
  obtain ⟨hz⟩ := hz
  cases hi : P.info? T with
  | none => simp [hi] at hz
  | some i =>
    cases hq : i.zero with
    | none => simp [hi, hq] at hz
    | some z =>
      simp only [hi, hq, Option.bind_some, Option.map_some, Option.some.injEq] at hz
      unfold Instr.build
      simp only [zeroValue, typeInfo, hi, hq, Sem.run_bind, Sem.run_pure, Result.andThen_ok, run_underlying hu, hp, hz, hf]
      simp [hi, hq, hz, hf, Sem.run_pure]

theorem fill1 {place : Nat → Option (Nat × Nat)} {cs : List Value} {i : Nat} {v : Value} {rest : List (Nat × Value)} {off : Nat} (hp : place i = some (off, 1))
    (hv : v.cells = #[v]) (hle : off < cs.length) : Instr.fill place cs.toArray ((i, v) :: rest) = Instr.fill place (cs.set off v).toArray rest := by
  rw [fill_part place cs i v rest off 1 hp [v] hv rfl (by omega), List.set_eq_take_append_cons_drop, if_pos hle]
  simp
end

theorem fill_cond (c : Cond) (h : c.hash.length = 32) : Instr.fill ((#[(0, 1), (1, 1), (2, 1), (3, 32), (35, 1)] : Array (Nat × Nat))[·]?) Cond.zero.cells.toArray
    [(0, .int .u64 c.id), (1, .int .i64 c.side), (2, .int .u64 c.amount), (3, .agg (bs c.hash).toArray), (4, .int .u64 c.expiry)] = some c.cells.toArray := by
  obtain ⟨id, side, am, hash, ex⟩ := c
  simp only at h
  rw [fill1 (off := 0) rfl rfl (Cond.lt _ (zb_length 32) (by omega)), Cond.zero, Cond.set_id, fill1 (off := 1) rfl rfl (Cond.lt _ (zb_length 32) (by omega)), Cond.set_side, fill1 (off := 2) rfl rfl (Cond.lt _ (zb_length 32) (by omega)), Cond.set_amount,
    fill_part _ _ _ _ _ 3 32 rfl (bs hash) rfl (by rw [bs_length, h]) (by rw [Cond.len _ (zb_length 32)]; omega), Cond.set_hash _ _ _ _ _ _ (zb_length 32), fill1 (off := 35) rfl rfl (Cond.lt _ h (by omega)), Cond.set_expiry _ _ _ _ _ _ h]
  rfl

theorem fill_op (o : Oop) (h : o.cond.hash.length = 32) : Instr.fill ((#[(0, 1), (1, 1), (2, 36), (38, 1)] : Array (Nat × Nat))[·]?) Oop.zero.cells.toArray
    [(0, .int .i64 o.kind), (1, .int .u64 o.amount), (2, .agg o.cond.cells.toArray), (3, .int .u64 o.id)] = some o.cells.toArray := by
  obtain ⟨k, am, c, id⟩ := o
  simp only at h
  rw [fill1 (off := 0) rfl rfl (Oop.lt' _ (zb_length 32) (by omega)), Oop.zero, Oop.set_kind, fill1 (off := 1) rfl rfl (Oop.lt' _ (zb_length 32) (by omega)), Oop.set_amount,
    fill_part _ _ _ _ _ 2 36 rfl c.cells rfl (Cond.len _ h) (by rw [Oop.len _ (zb_length 32)]; omega), Oop.set_cond _ _ _ _ _ (zb_length 32), fill1 (off := 38) rfl rfl (Oop.lt' _ h (by omega)), Oop.set_id _ _ _ _ _ h]
  rfl

theorem fill_sig (l : LSig) (key : Nat) (h : l.cells.length = 1024) : Instr.fill ((#[(0, 1024), (1024, 1), (1025, 1)] : Array (Nat × Nat))[·]?) (Sig.zero.cells (.slice none 0 0)).toArray
    [(0, .agg l.cells.toArray), (1, .int .u32 key)] = some (Sig.cells ⟨l, key, []⟩ (.slice none 0 0)).toArray := by
  rw [fill_part _ _ _ _ _ 0 1024 rfl l.cells rfl h (by rw [Sig.len _ _ lzero_len]; omega), Sig.zero, Sig.set_l _ _ _ _ _ lzero_len, fill1 (off := 1024) rfl rfl (by rw [Sig.len _ _ h]; omega), Sig.set_key _ _ _ _ _ h]
  rfl

theorem fill_memo (k : Int) (c r : Nat) (o : Oop) (s : Sig) (wv : Value) (ho : o.cells.length = 39) (hs : s.l.cells.length = 1024) :
    Instr.fill ((#[(0, 1), (1, 1), (2, 1), (3, 39), (42, 1), (43, 1026)] : Array (Nat × Nat))[·]?) (Memo.zero.cells (.slice none 0 0) (.slice none 0 0)).toArray
    [(0, .int .i64 k), (1, .int .u32 c), (2, .int .u64 r), (3, .agg o.cells.toArray), (5, .agg (s.cells wv).toArray)] = some (Memo.cells ⟨k, c, r, o, [], s⟩ (.slice none 0 0) wv).toArray := by
  rw [show Memo.zero = ⟨0, 0, 0, Oop.zero, [], Sig.zero⟩ from rfl, fill1 (off := 0) rfl rfl (Memo.lt _ _ _ _ _ _ _ _ ozero_len lzero_len (by omega)), Memo.set_kind, fill1 (off := 1) rfl rfl (Memo.lt _ _ _ _ _ _ _ _ ozero_len lzero_len (by omega)), Memo.set_channel,
    fill1 (off := 2) rfl rfl (Memo.lt _ _ _ _ _ _ _ _ ozero_len lzero_len (by omega)), Memo.set_round,
    fill_part _ _ _ _ _ 3 39 rfl o.cells rfl ho (by rw [Memo.lenmk _ _ _ _ _ _ _ _ ozero_len lzero_len]; omega), Memo.set_op _ _ _ _ _ _ _ _ ozero_len,
    fill_part _ _ _ _ _ 43 1026 rfl (s.cells wv) rfl (Sig.len _ _ hs) (by rw [Memo.lenmk _ _ _ _ _ _ _ _ ho lzero_len]; omega), Memo.set_sig _ _ _ _ _ _ _ _ ho lzero_len]
  rfl

theorem build_condR (c : Cond) (h : c.hash.length = 32) (w : World) : (Instr.build 48 [(0, .int .u64 c.id), (1, .int .i64 c.side), (2, .int .u64 c.amount), (3, .agg (bs c.hash).toArray), (4, .int .u64 c.expiry)].toArray).run Try.prog w = .ok (.agg c.cells.toArray) w :=
  run_build Try.underlying48 (fun w => by kernel_rfl) (fill_cond c h) w
theorem build_opR (o : Oop) (h : o.cond.hash.length = 32) (w : World) : (Instr.build 50 [(0, .int .i64 o.kind), (1, .int .u64 o.amount), (2, .agg o.cond.cells.toArray), (3, .int .u64 o.id)].toArray).run Try.prog w = .ok (.agg o.cells.toArray) w :=
  run_build Try.underlying50 (fun w => by kernel_rfl) (fill_op o h) w
theorem build_sigR (l : LSig) (key : Nat) (h : l.cells.length = 1024) (w : World) : (Instr.build 58 [(0, .agg l.cells.toArray), (1, .int .u32 key)].toArray).run Try.prog w = .ok (.agg (Sig.cells ⟨l, key, []⟩ (.slice none 0 0)).toArray) w :=
  run_build Try.underlying58 (fun w => by kernel_rfl) (fill_sig l key h) w
theorem build_memoR (k : Int) (c r : Nat) (o : Oop) (s : Sig) (wv : Value) (ho : o.cells.length = 39) (hs : s.l.cells.length = 1024) (w : World) :
    (Instr.build 60 [(0, .int .i64 k), (1, .int .u32 c), (2, .int .u64 r), (3, .agg o.cells.toArray), (5, .agg (s.cells wv).toArray)].toArray).run Try.prog w = .ok (.agg (Memo.cells ⟨k, c, r, o, [], s⟩ (.slice none 0 0) wv).toArray) w :=
  run_build Try.underlying60 (fun w => by kernel_rfl) (fill_memo k c r o s wv ho hs) w
theorem build_hopR (h : Hop) (w : World) : (Instr.build 97 [(0, .int .u32 h.channel), (1, .int .u64 h.amount), (2, .int .u64 h.id)].toArray).run Try.prog w = .ok (.agg h.cells.toArray) w := by kernel_rfl

section
variable {P : Program} {S : World → Prop} {a : Act} {o : Oper}
theorem yl_loadR {ty : TypeId} {x : Operand} (ho : o.op = .load ty x) {ad : Addr} (hx : a.eval x = .pointer (some ad)) {n : Nat} [h : TyOK P ty true n]
    {vs : List Value} (hn : vs.length = n) (hc : ∀ w, S w → CellsAt w ad vs) : ∀ w, S w → (execOp a.eval o).run P w = .ok (.value (.agg vs.toArray)) w := by
  intro w hw
  unfold execOp
  simp only [ho, hx, Instr.loadAt, Instr.sureAddr, Sem.run_bind, Sem.run_pure, Result.andThen_ok, run_loadVar_agg (hc w hw) hn]
theorem yl_build {T : TypeId} {parts : Array (Nat × Operand)} (ho : o.op = .build T parts) (ps : List (Nat × Value)) (hps : parts.toList.map (fun x => (x.1, a.eval x.2)) = ps)
    {cs : List Value} (hb : ∀ w, (Instr.build T ps.toArray).run P w = .ok (.agg cs.toArray) w) : ∀ w, S w → (execOp a.eval o).run P w = .ok (.value (.agg cs.toArray)) w := by
  intro w hw
  subst hps
  have e : (parts.map fun x => (x.1, a.eval x.2)) = (parts.toList.map fun x => (x.1, a.eval x.2)).toArray := by apply Array.ext'; simp
  unfold execOp
  simp only [ho, Sem.run_bind, e, hb, Result.andThen_ok, Sem.run_pure]
end

def ValPost (w : World) (cs : List Value) (e : Ending) (w' : World) : Prop := e = .returned (.agg cs.toArray) ∧ St w [] w' []

theorem condFrom_ok (c : Cond) (h : c.hash.length = 32) (w : World) : Calls Try.prog 35 #[.agg c.cells.toArray] w (ValPost w c.cells) := by
  have hS := St.nil w
  have Hlen := Lib.hid (Cond.len c h)
  have Hh := Lib.hid (show (c.cells.drop 3).take 32 = bs c.hash by simp [Cond.cells, List.take_append, bs_length, h])
  have H4 := Lib.hid (show c.cells[35]? = some (.int .u64 c.expiry) by simp [Cond.cells, List.getElem?_append, bs_length, h])
  have H0 := Lib.hid (show c.cells[0]? = some (.int .u64 c.id) from rfl)
  have H1 := Lib.hid (show c.cells[1]? = some (.int .i64 c.side) from rfl)
  have H2 := Lib.hid (show c.cells[2]? = some (.int .u64 c.amount) from rfl)
  have Hhash := Lib.hid (show (bs c.hash).length = 32 by rw [bs_length, h])
  have Hb := Lib.hid (build_condR c h)
  have Hone := Lib.hid (Cond.one c)
  clear h
  generalize c.cells = cs at *
  go_enter Try.func35, Try.ntmps35
  go_wp2_with (first
    | ((with_reducible show wpList _ _ _ (Oper.mk _ (Op.box _ _) _ _ _ _ :: _) _ _); refine wpl rfl ?_; refine owp_box hS rfl (vs := cs) rfl ?_; clear hS; intro gb _ hS; try simp only [List.cons_append, List.nil_append, List.append_nil, List.set_cons_zero, List.set_cons_succ] at hS)
    | ((with_reducible show wpList _ _ _ (Oper.mk (some 2) (Op.alloc _) _ _ _ _ :: _) _ _); refine wpl rfl ?_; refine (owp_allocAt hS 2 rfl rfl ?_); clear hS; intro gr _ hS; simp only [List.cons_append, List.nil_append] at hS)
    | ((with_reducible show wpList _ _ _ (Oper.mk _ (Op.load _ _) _ _ _ _ :: _) _ _); refine wpl rfl ?_; first
        | refine owp_load1 hS 0 rfl rfl rfl H0.out ?_
        | refine owp_load1 hS 0 rfl rfl rfl H1.out ?_
        | refine owp_load1 hS 0 rfl rfl rfl H2.out ?_
        | refine owp_load1 hS 0 rfl rfl rfl H4.out ?_
        | refine owp_load hS 0 rfl rfl rfl Hh.out Hhash.out ?_)
    | ((with_reducible show wpList _ _ _ (Oper.mk _ (Op.build _ _) _ _ _ _ :: _) _ _); refine wpl rfl ?_; refine owp_build rfl [(0, .int .u64 c.id), (1, .int .i64 c.side), (2, .int .u64 c.amount), (3, .agg (bs c.hash).toArray), (4, .int .u64 c.expiry)] rfl (Hb.out _) ?_)
    | ((with_reducible show wpList _ _ _ (Oper.mk _ (Op.store _ _ _) _ _ _ _ :: _) _ _); refine wpl rfl ?_; refine (owp_storeW hS 1 rfl rfl rfl rfl (Hlen.out) (Cond.len _ (zb_length 32)) (Hone.out) ?_); clear hS; intro _ hS; try simp only [List.cons_append, List.nil_append, List.append_nil, List.set_cons_zero, List.set_cons_succ] at hS))
  (try simp only [Exit.inBlock, Exit.then]); refine bodyPost_ret (res_cell rfl rfl hS 1 rfl (Hlen.out)) rfl ?_
  exact ⟨rfl, hS.pick [] rfl (by decide)⟩

end Go.Proofs.Ytjgphbdffhmmgaa
