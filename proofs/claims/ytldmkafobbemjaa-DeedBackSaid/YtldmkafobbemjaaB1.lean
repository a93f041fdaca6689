/-
  Struct literals with whole parts; a condition turned into the document's.
  A lamp's signature turned into the document's.
-/
import Derived.Test.YtldmkafobbemjaaA8
import Derived.Test.YtldmkafobbemjaaA3
namespace Go.Proofs.Ytldmkafobbemjaa
set_option linter.unusedSimpArgs false
set_option linter.unusedVariables false
open Go Go.RowKit
set_option maxRecDepth 100000
set_option maxHeartbeats 2000000

section
variable {P : Program}
theorem run_build {T : TypeId} {fields : Array Field} {pl : Array (Nat × Nat)} (hu : P.underlying T = some (.struct fields))
    (hp : ∀ w, (fields.mapM fun f => do pure (f.offset, ← sizeOf f.type) : Sem (Array (Nat × Nat))).run P w = .ok pl w) {zs : List Value} [hz : ZeroOK P T zs]
    {parts : List (Nat × Value)} {cs : List Value} (hf : Instr.fill (pl[·]?) zs.toArray parts = some cs.toArray) (w : World) :
    (Instr.build T parts.toArray).run P w = .ok (.agg cs.toArray) w := by
  obtain ⟨hz⟩ := hz
  cases hi : P.info? T with
  | none => simp [hi] at hz
  | some i =>
    cases hq : i.zero with
    | none => simp [hi, hq] at hz
    | some z =>
      simp only [hi, hq, Option.bind_some, Option.map_some, Option.some.injEq] at hz
      unfold Instr.build
      simp only [zeroValue, typeInfo, hi, hq, Sem.run_bind, Sem.run_pure, Result.andThen_ok, run_underlying hu, hp, hz, hf]
      simp [hi, hq, hz, hf, Sem.run_pure]

theorem fill1 {place : Nat → Option (Nat × Nat)} {cs : List Value} {i : Nat} {v : Value} {rest : List (Nat × Value)} {off : Nat} (hp : place i = some (off, 1))
    (hv : v.cells = #[v]) (hle : off < cs.length) : Instr.fill place cs.toArray ((i, v) :: rest) = Instr.fill place (cs.set off v).toArray rest := by
  rw [fill_part place cs i v rest off 1 hp [v] hv rfl (by omega), List.set_eq_take_append_cons_drop, if_pos hle]
  simp
end

theorem fill_cond (c : Cond) (h : c.hash.length = 32) : Instr.fill ((#[(0, 1), (1, 1), (2, 1), (3, 32), (35, 1)] : Array (Nat × Nat))[·]?) Cond.zero.cells.toArray
    [(0, .int .u64 c.id), (1, .int .i64 c.side), (2, .int .u64 c.amount), (3, .agg (bs c.hash).toArray), (4, .int .u64 c.expiry)] = some c.cells.toArray := by
  obtain ⟨id, side, am, hash, ex⟩ := c
  simp only at h
  rw [fill1 (off := 0) rfl rfl (Cond.lt _ (zb_length 32) (by omega)), Cond.zero, Cond.set_id, fill1 (off := 1) rfl rfl (Cond.lt _ (zb_length 32) (by omega)), Cond.set_side, fill1 (off := 2) rfl rfl (Cond.lt _ (zb_length 32) (by omega)), Cond.set_amount,
    fill_part _ _ _ _ _ 3 32 rfl (bs hash) rfl (by rw [bs_length, h]) (by rw [Cond.len _ (zb_length 32)]; omega), Cond.set_hash _ _ _ _ _ _ (zb_length 32), fill1 (off := 35) rfl rfl (Cond.lt _ h (by omega)), Cond.set_expiry _ _ _ _ _ _ h]
  rfl

theorem fill_op (o : Oop) (h : o.cond.hash.length = 32) : Instr.fill ((#[(0, 1), (1, 1), (2, 36), (38, 1)] : Array (Nat × Nat))[·]?) Oop.zero.cells.toArray
    [(0, .int .i64 o.kind), (1, .int .u64 o.amount), (2, .agg o.cond.cells.toArray), (3, .int .u64 o.id)] = some o.cells.toArray := by
  obtain ⟨k, am, c, id⟩ := o
  simp only at h
  rw [fill1 (off := 0) rfl rfl (Oop.lt' _ (zb_length 32) (by omega)), Oop.zero, Oop.set_kind, fill1 (off := 1) rfl rfl (Oop.lt' _ (zb_length 32) (by omega)), Oop.set_amount,
    fill_part _ _ _ _ _ 2 36 rfl c.cells rfl (Cond.len _ h) (by rw [Oop.len _ (zb_length 32)]; omega), Oop.set_cond _ _ _ _ _ (zb_length 32), fill1 (off := 38) rfl rfl (Oop.lt' _ h (by omega)), Oop.set_id _ _ _ _ _ h]
  rfl

theorem fill_sig (l : LSig) (key : Nat) (h : l.cells.length = 1024) : Instr.fill ((#[(0, 1024), (1024, 1), (1025, 1)] : Array (Nat × Nat))[·]?) (Sig.zero.cells (.slice none 0 0)).toArray
    [(0, .agg l.cells.toArray), (1, .int .u32 key)] = some (Sig.cells ⟨l, key, []⟩ (.slice none 0 0)).toArray := by
  rw [fill_part _ _ _ _ _ 0 1024 rfl l.cells rfl h (by rw [Sig.len _ _ lzero_len]; omega), Sig.zero, Sig.set_l _ _ _ _ _ lzero_len, fill1 (off := 1024) rfl rfl (by rw [Sig.len _ _ h]; omega), Sig.set_key _ _ _ _ _ h]
  rfl

theorem fill_memo (k : Int) (c r : Nat) (o : Oop) (s : Sig) (wv : Value) (ho : o.cells.length = 39) (hs : s.l.cells.length = 1024) :
    Instr.fill ((#[(0, 1), (1, 1), (2, 1), (3, 39), (42, 1), (43, 1026)] : Array (Nat × Nat))[·]?) (Memo.zero.cells (.slice none 0 0) (.slice none 0 0)).toArray
    [(0, .int .i64 k), (1, .int .u32 c), (2, .int .u64 r), (3, .agg o.cells.toArray), (5, .agg (s.cells wv).toArray)] = some (Memo.cells ⟨k, c, r, o, [], s⟩ (.slice none 0 0) wv).toArray := by
  rw [show Memo.zero = ⟨0, 0, 0, Oop.zero, [], Sig.zero⟩ from rfl, fill1 (off := 0) rfl rfl (Memo.lt _ _ _ _ _ _ _ _ ozero_len lzero_len (by omega)), Memo.set_kind, fill1 (off := 1) rfl rfl (Memo.lt _ _ _ _ _ _ _ _ ozero_len lzero_len (by omega)), Memo.set_channel,
    fill1 (off := 2) rfl rfl (Memo.lt _ _ _ _ _ _ _ _ ozero_len lzero_len (by omega)), Memo.set_round,
    fill_part _ _ _ _ _ 3 39 rfl o.cells rfl ho (by rw [Memo.lenmk _ _ _ _ _ _ _ _ ozero_len lzero_len]; omega), Memo.set_op _ _ _ _ _ _ _ _ ozero_len,
    fill_part _ _ _ _ _ 43 1026 rfl (s.cells wv) rfl (Sig.len _ _ hs) (by rw [Memo.lenmk _ _ _ _ _ _ _ _ ho lzero_len]; omega), Memo.set_sig _ _ _ _ _ _ _ _ ho lzero_len]
  rfl

theorem build_condR (c : Cond) (h : c.hash.length = 32) (w : World) : (Instr.build 91 [(0, .int .u64 c.id), (1, .int .i64 c.side), (2, .int .u64 c.amount), (3, .agg (bs c.hash).toArray), (4, .int .u64 c.expiry)].toArray).run Try.prog w = .ok (.agg c.cells.toArray) w :=
  run_build Try.underlying91 (fun w => by kernel_rfl) (fill_cond c h) w
theorem build_opR (o : Oop) (h : o.cond.hash.length = 32) (w : World) : (Instr.build 93 [(0, .int .i64 o.kind), (1, .int .u64 o.amount), (2, .agg o.cond.cells.toArray), (3, .int .u64 o.id)].toArray).run Try.prog w = .ok (.agg o.cells.toArray) w :=
  run_build Try.underlying93 (fun w => by kernel_rfl) (fill_op o h) w
theorem build_sigR (l : LSig) (key : Nat) (h : l.cells.length = 1024) (w : World) : (Instr.build 66 [(0, .agg l.cells.toArray), (1, .int .u32 key)].toArray).run Try.prog w = .ok (.agg (Sig.cells ⟨l, key, []⟩ (.slice none 0 0)).toArray) w :=
  run_build Try.underlying66 (fun w => by kernel_rfl) (fill_sig l key h) w
section
variable {P : Program} {S : World → Prop} {a : Act} {o : Oper}
theorem yl_loadR {ty : TypeId} {x : Operand} (ho : o.op = .load ty x) {ad : Addr} (hx : a.eval x = .pointer (some ad)) {n : Nat} [h : TyOK P ty true n]
    {vs : List Value} (hn : vs.length = n) (hc : ∀ w, S w → CellsAt w ad vs) : ∀ w, S w → (execOp a.eval o).run P w = .ok (.value (.agg vs.toArray)) w := by
  intro w hw
  unfold execOp
  simp only [ho, hx, Instr.loadAt, Instr.sureAddr, Sem.run_bind, Sem.run_pure, Result.andThen_ok, run_loadVar_agg (hc w hw) hn]
theorem yl_build {T : TypeId} {parts : Array (Nat × Operand)} (ho : o.op = .build T parts) (ps : List (Nat × Value)) (hps : parts.toList.map (fun x => (x.1, a.eval x.2)) = ps)
    {cs : List Value} (hb : ∀ w, (Instr.build T ps.toArray).run P w = .ok (.agg cs.toArray) w) : ∀ w, S w → (execOp a.eval o).run P w = .ok (.value (.agg cs.toArray)) w := by
  intro w hw
  subst hps
  have e : (parts.map fun x => (x.1, a.eval x.2)) = (parts.toList.map fun x => (x.1, a.eval x.2)).toArray := by apply Array.ext'; simp
  unfold execOp
  simp only [ho, Sem.run_bind, e, hb, Result.andThen_ok, Sem.run_pure]
end

def ValPost (w : World) (cs : List Value) (e : Ending) (w' : World) : Prop := e = .returned (.agg cs.toArray) ∧ St w [] w' []

theorem condFrom_ok (c : Cond) (h : c.hash.length = 32) (w : World) : Calls Try.prog 45 #[.agg c.cells.toArray] w (ValPost w c.cells) := by
  have hS := St.nil w
  have Hlen := Lib.hid (Cond.len c h)
  have Hh := Lib.hid (show (c.cells.drop 3).take 32 = bs c.hash by simp [Cond.cells, List.take_append, bs_length, h])
  have H4 := Lib.hid (show c.cells[35]? = some (.int .u64 c.expiry) by simp [Cond.cells, List.getElem?_append, bs_length, h])
  have H0 := Lib.hid (show c.cells[0]? = some (.int .u64 c.id) from rfl)
  have H1 := Lib.hid (show c.cells[1]? = some (.int .i64 c.side) from rfl)
  have H2 := Lib.hid (show c.cells[2]? = some (.int .u64 c.amount) from rfl)
  have Hhash := Lib.hid (show (bs c.hash).length = 32 by rw [bs_length, h])
  have Hb := Lib.hid (build_condR c h)
  have Hone := Lib.hid (Cond.one c)
  clear h
  generalize c.cells = cs at *
  go_enter Try.func45, Try.ntmps45
  go_wp2_with (first
    | ((with_reducible show wpList _ _ _ (Oper.mk _ (Op.box _ _) _ _ _ _ :: _) _ _); refine wpl rfl ?_; refine owp_box hS rfl (vs := cs) rfl ?_; clear hS; intro gb _ hS; try simp only [List.cons_append, List.nil_append, List.append_nil, List.set_cons_zero, List.set_cons_succ] at hS)
    | ((with_reducible show wpList _ _ _ (Oper.mk (some 2) (Op.alloc _) _ _ _ _ :: _) _ _); refine wpl rfl ?_; refine (owp_allocAt hS 2 rfl rfl ?_); clear hS; intro gr _ hS; simp only [List.cons_append, List.nil_append] at hS)
    | ((with_reducible show wpList _ _ _ (Oper.mk _ (Op.load _ _) _ _ _ _ :: _) _ _); refine wpl rfl ?_; first
        | refine owp_load1 hS 0 rfl rfl rfl H0.out ?_
        | refine owp_load1 hS 0 rfl rfl rfl H1.out ?_
        | refine owp_load1 hS 0 rfl rfl rfl H2.out ?_
        | refine owp_load1 hS 0 rfl rfl rfl H4.out ?_
        | refine owp_load hS 0 rfl rfl rfl Hh.out Hhash.out ?_)
    | ((with_reducible show wpList _ _ _ (Oper.mk _ (Op.build _ _) _ _ _ _ :: _) _ _); refine wpl rfl ?_; refine owp_build rfl [(0, .int .u64 c.id), (1, .int .i64 c.side), (2, .int .u64 c.amount), (3, .agg (bs c.hash).toArray), (4, .int .u64 c.expiry)] rfl (Hb.out _) ?_)
    | ((with_reducible show wpList _ _ _ (Oper.mk _ (Op.store _ _ _) _ _ _ _ :: _) _ _); refine wpl rfl ?_; refine (owp_storeW hS 1 rfl rfl rfl rfl (Hlen.out) (Cond.len _ (zb_length 32)) (Hone.out) ?_); clear hS; intro _ hS; try simp only [List.cons_append, List.nil_append, List.append_nil, List.set_cons_zero, List.set_cons_succ] at hS))
  (try simp only [Exit.inBlock, Exit.then]); refine bodyPost_ret (res_cell rfl rfl hS 1 rfl (Hlen.out)) rfl ?_
  exact ⟨rfl, hS.pick [] rfl (by decide)⟩

end Go.Proofs.Ytldmkafobbemjaa
namespace Go.Proofs.Ytldmkafobbemjaa
set_option linter.unusedSimpArgs false
set_option linter.unusedVariables false
open Go Go.RowKit
set_option maxRecDepth 100000
set_option maxHeartbeats 2000000

theorem Holds.range {w : World} {g : Nat} {cs : List Value} {T : TypeId} (h : Holds w (some (g, cs, T))) (off n : Nat) {vs : List Value} (e : (cs.drop off).take n = vs) : CellsAt w ⟨g, off, none⟩ vs := by
  subst e
  exact CellsAt.row (h g cs T rfl)

def partly (x : List UInt8) (n : Nat) : List UInt8 := x.take n ++ zb (x.length - n)
theorem partly_len (x : List UInt8) (n : Nat) (h : n ≤ x.length) : (partly x n).length = x.length := by simp [partly, zb_length]; omega
theorem partly_zero (x : List UInt8) : partly x 0 = zb x.length := by simp [partly]
theorem partly_full (x : List UInt8) : partly x x.length = x := by simp [partly, zb]
theorem partly_step (x : List UInt8) (n k : Nat) (h : n + k ≤ x.length) : (partly x n).take n ++ (x.drop n).take k ++ (partly x n).drop (n + k) = partly x (n + k) := by
  have h1 : (x.take n).length = n := by rw [List.length_take]; omega
  unfold partly
  have e1 : (x.take n).drop (n + k) = [] := List.drop_eq_nil_of_le (by omega)
  rw [List.take_left' h1, List.drop_append, h1, e1, List.nil_append, List.take_add]
  have h2 : (zb (x.length - n)).drop (n + k - n) = zb (x.length - (n + k)) := by
    simp only [zb, List.drop_replicate]
    congr 1
    omega
  rw [h2]

def lampPart (x y : List UInt8) (n m : Nat) : List Value := bs (partly x n) ++ bs (partly y m)
theorem lampPart_len {x y : List UInt8} {n m : Nat} (hx : x.length = 512) (hy : y.length = 512) (hn : n ≤ 512) (hm : m ≤ 512) : (lampPart x y n m).length = 1024 := by
  rw [lampPart, List.length_append, bs_length, bs_length, partly_len _ _ (by omega), partly_len _ _ (by omega), hx, hy]
theorem lampPart_one (x y : List UInt8) (n m : Nat) : ∀ v, v ∈ lampPart x y n m → v.oneCell' = true := by
  intro v hv
  rcases List.mem_append.1 hv with h | h
  · exact bs_one _ v h
  · exact bs_one _ v h
theorem lampPart_set1 {x y : List UInt8} {n m k : Nat} (hx : x.length = 512) (hn : n + k ≤ 512) :
    (lampPart x y n m).take n ++ bs ((x.drop n).take k) ++ (lampPart x y n m).drop (n + k) = lampPart x y (n + k) m := by
  have hl : (bs (partly x n)).length = 512 := by rw [bs_length, partly_len _ _ (by omega), hx]
  unfold lampPart
  rw [List.take_append_of_le_length (by omega), List.drop_append_of_le_length (by omega), ← List.append_assoc, bs_take, bs_drop, ← bs_append, ← bs_append, partly_step x n k (by omega)]
theorem lampPart_set2 {x y : List UInt8} {n m k : Nat} (hx : x.length = 512) (hy : y.length = 512) (hn : n ≤ 512) (hm : m + k ≤ 512) :
    (lampPart x y n m).take (512 + m) ++ bs ((y.drop m).take k) ++ (lampPart x y n m).drop (512 + m + k) = lampPart x y n (m + k) := by
  have hl : (bs (partly x n)).length = 512 := by rw [bs_length, partly_len _ _ (by omega), hx]
  unfold lampPart
  have e1 : (bs (partly x n)).drop (512 + m + k) = [] := List.drop_eq_nil_of_le (by omega)
  have e2 : (bs (partly x n)).take (512 + m) = bs (partly x n) := List.take_of_length_le (by omega)
  rw [List.take_append, List.drop_append, hl, e1, e2, List.nil_append, show 512 + m - 512 = m by omega, show 512 + m + k - 512 = m + k by omega,
    List.append_assoc, List.append_assoc, ← List.append_assoc ((bs (partly y m)).take m), bs_take, bs_drop, ← bs_append, ← bs_append, partly_step y m k (by omega)]

theorem lampFrom_ok (s : LSig) (h1 : s.shown.length = 512) (h2 : s.other.length = 512) (w : World) : Calls Try.prog 67 #[.agg s.cells.toArray] w (ValPost w s.cells) := by
  have hS := St.nil w
  obtain ⟨x, y⟩ := s
  simp only at h1 h2
  have Hs := Lib.hid (fun (n : Nat) (hn : n + 16 ≤ 512) => show ((LSig.cells ⟨x, y⟩).drop n).take 16 = bs ((x.drop n).take 16) by
    show ((bs x ++ bs y).drop n).take 16 = _
    rw [List.drop_append_of_le_length (by rw [bs_length]; omega), List.take_append_of_le_length (by rw [List.length_drop, bs_length]; omega), bs_drop, bs_take])
  have Ho := Lib.hid (fun (n : Nat) (hn : n + 16 ≤ 512) => show ((LSig.cells ⟨x, y⟩).drop (512 + n)).take 16 = bs ((y.drop n).take 16) by
    show ((bs x ++ bs y).drop (512 + n)).take 16 = _
    have e1 : (bs x).drop (512 + n) = [] := List.drop_eq_nil_of_le (by rw [bs_length]; omega)
    rw [List.drop_append, e1, List.nil_append, bs_length, h1, show 512 + n - 512 = n by omega, bs_drop, bs_take])
  have Hfin := Lib.hid (show lampPart x y 512 512 = LSig.cells ⟨x, y⟩ by
    have e1 := partly_full x
    have e2 := partly_full y
    rw [h1] at e1
    rw [h2] at e2
    rw [lampPart, e1, e2]; rfl)
  have Hz := Lib.hid (show LSig.zero.cells = lampPart x y 0 0 by
    rw [lampPart, partly_zero, partly_zero, h1, h2]; rfl)
  generalize hcs : LSig.cells ⟨x, y⟩ = cs at *
  go_enter Try.func67, Try.ntmps67
  go_wp2_with (first
    | ((with_reducible show wpList _ _ _ (Oper.mk _ (Op.box _ _) _ _ _ _ :: _) _ _); refine wpl rfl ?_; refine owp_box hS rfl (vs := cs) rfl ?_; clear hS; intro gs _ hS; try simp only [List.cons_append, List.nil_append, List.append_nil, List.set_cons_zero, List.set_cons_succ] at hS)
    | ((with_reducible show wpList _ _ _ (Oper.mk (some 2) (Op.alloc _) _ _ _ _ :: _) _ _); refine wpl rfl ?_; refine (owp_allocAt hS 2 rfl rfl ?_); clear hS; intro gr _ hS; simp only [List.cons_append, List.nil_append] at hS)
    | ((with_reducible show wpList _ _ _ (Oper.mk (some 3) (Op.alloc _) _ _ _ _ :: _) _ _); refine wpl rfl ?_; refine (owp_allocAt hS 3 rfl rfl ?_); clear hS; intro go _ hS; simp only [List.cons_append, List.nil_append] at hS))
  rw [show some (go, LSig.zero.cells, 63) = some (go, lampPart x y 0 0, 63) by rw [Hz.out]] at hS
  go_loopw [4, 5] (fun _ i wr => ∃ j : Nat, j ≤ 32 ∧ i = .int .i64 j ∧ St w [] wr [some (gs, cs, 36), some (gr, LSig.zero.cells, 63), some (go, lampPart x y (j * 16) (j * 16), 63)]) (fun _ i _ => 32 - (intOf i).toNat)
  case atStart => exact ⟨0, by omega, rfl, hS⟩
  case round =>
    clear hS
    obtain ⟨j, hj, rfl, hS⟩ := hrel
    by_cases hlt : j < 32
    · have Hp := Lib.hid (Hs.out (j * 16) (by omega))
      have Hq := Lib.hid (Ho.out (j * 16) (by omega))
      have Hl1 := Lib.hid (show (bs ((x.drop (j * 16)).take 16)).length = 16 by rw [bs_length, List.length_take, List.length_drop]; omega)
      have Hl2 := Lib.hid (show (bs ((y.drop (j * 16)).take 16)).length = 16 by rw [bs_length, List.length_take, List.length_drop]; omega)
      have Hc1 := Lib.hid (lampPart_set1 (x := x) (y := y) (n := j * 16) (m := j * 16) (k := 16) h1 (by omega))
      have Hc2 := Lib.hid (lampPart_set2 (x := x) (y := y) (n := j * 16 + 16) (m := j * 16) (k := 16) h1 h2 (by omega) (by omega))
      have Hle1 := Lib.hid (lampPart_len (n := j * 16) (m := j * 16) h1 h2 (by omega) (by omega))
      have Hle2 := Lib.hid (lampPart_len (n := j * 16 + 16) (m := j * 16) h1 h2 (by omega) (by omega))
      have hj0 : (0 : Int) ≤ j := by omega
      have hj1 : (j : Int) < 32 := by omega
      go_wp2_with fail
      replace hS := hS.drew
      refine wp_region_held_drew (S := (fun w' => CellsAt w' ⟨gs, j * 16, none⟩ (bs ((x.drop (j * 16)).take 16)) ∧ CellsAt w' ⟨gs, 512 + j * 16, none⟩ (bs ((y.drop (j * 16)).take 16)))) (by kernel_rfl) ⟨(hS.get 0 rfl).range _ _ Hp.out, (hS.get 0 rfl).range _ _ Hq.out⟩ (fun hHeld => ?_)
      refine htake (i := 0) (v := (.int .i64 j)) rfl (by kernel_rfl) (by kernel_rfl) (by kernel_rfl) (fun _ _ _ h => h) (Or.inl ⟨by rfl, by (intro w hSw; (try dsimp only at hSw); (try obtain hSw := hSw); go_simp; try with_reducible rfl)⟩) (by assumption) ?_; simp only [Act.put, List.setIfInBounds_toArray, List.set_cons_succ, List.set_cons_zero]
      refine htake (i := 1) (v := (.int .i64 j)) rfl (by kernel_rfl) (by kernel_rfl) (by kernel_rfl) (fun _ _ _ h => h) (Or.inl ⟨by rfl, by (intro w hSw; (try dsimp only at hSw); (try obtain hSw := hSw); go_simp; try with_reducible rfl)⟩) (by assumption) ?_; simp only [Act.put, List.setIfInBounds_toArray, List.set_cons_succ, List.set_cons_zero]
      refine htake (i := 2) (v := (.int .i64 j)) rfl (by kernel_rfl) (by kernel_rfl) (by kernel_rfl) (fun _ _ _ h => h) (Or.inl ⟨by rfl, by (intro w hSw; (try dsimp only at hSw); (try obtain hSw := hSw); go_simp; try with_reducible rfl)⟩) (by assumption) ?_; simp only [Act.put, List.setIfInBounds_toArray, List.set_cons_succ, List.set_cons_zero]
      refine htake (i := 3) (v := (.pointer (some ⟨gs, 0, none⟩))) rfl (by kernel_rfl) (by kernel_rfl) (by kernel_rfl) (fun _ _ _ h => h) (Or.inl ⟨by rfl, by (intro w hSw; (try dsimp only at hSw); (try obtain hSw := hSw); go_simp; try with_reducible rfl)⟩) (by assumption) ?_; simp only [Act.put, List.setIfInBounds_toArray, List.set_cons_succ, List.set_cons_zero]
      refine htake (i := 4) (v := (.pointer (some ⟨gs, j * 16, none⟩))) rfl (by kernel_rfl) (by kernel_rfl) (by kernel_rfl) (fun _ _ _ h => h) (Or.inl ⟨by rfl, by (intro w hSw; (try dsimp only at hSw); (try obtain hSw := hSw); go_simp; try with_reducible rfl)⟩) (by assumption) ?_; simp only [Act.put, List.setIfInBounds_toArray, List.set_cons_succ, List.set_cons_zero]
      refine htake (i := 5) (v := (.agg (bs ((x.drop (j * 16)).take 16)).toArray)) rfl (by kernel_rfl) (by kernel_rfl) (by kernel_rfl) (fun _ _ _ h => h) (Or.inl ⟨by rfl, yl_loadR rfl rfl Hl1.out (fun _ h => h.1)⟩) (by assumption) ?_; simp only [Act.put, List.setIfInBounds_toArray, List.set_cons_succ, List.set_cons_zero]
      refine htake (i := 6) (v := (.int .i64 j)) rfl (by kernel_rfl) (by kernel_rfl) (by kernel_rfl) (fun _ _ _ h => h) (Or.inl ⟨by rfl, by (intro w hSw; (try dsimp only at hSw); (try obtain hSw := hSw); go_simp; try with_reducible rfl)⟩) (by assumption) ?_; simp only [Act.put, List.setIfInBounds_toArray, List.set_cons_succ, List.set_cons_zero]
      refine htake (i := 7) (v := (.pointer (some ⟨gs, 512, none⟩))) rfl (by kernel_rfl) (by kernel_rfl) (by kernel_rfl) (fun _ _ _ h => h) (Or.inl ⟨by rfl, by (intro w hSw; (try dsimp only at hSw); (try obtain hSw := hSw); go_simp; try with_reducible rfl)⟩) (by assumption) ?_; simp only [Act.put, List.setIfInBounds_toArray, List.set_cons_succ, List.set_cons_zero]
      refine htake (i := 8) (v := (.pointer (some ⟨gs, 512 + j * 16, none⟩))) rfl (by kernel_rfl) (by kernel_rfl) (by kernel_rfl) (fun _ _ _ h => h) (Or.inl ⟨by rfl, by (intro w hSw; (try dsimp only at hSw); (try obtain hSw := hSw); go_simp; try with_reducible rfl)⟩) (by assumption) ?_; simp only [Act.put, List.setIfInBounds_toArray, List.set_cons_succ, List.set_cons_zero]
      refine htake (i := 9) (v := (.agg (bs ((y.drop (j * 16)).take 16)).toArray)) rfl (by kernel_rfl) (by kernel_rfl) (by kernel_rfl) (fun _ _ _ h => h) (Or.inl ⟨by rfl, yl_loadR rfl rfl Hl2.out (fun _ h => h.2)⟩) (by assumption) ?_; simp only [Act.put, List.setIfInBounds_toArray, List.set_cons_succ, List.set_cons_zero]
      refine htake (i := 10) (v := (.pointer (some ⟨go, 0, none⟩))) rfl (by kernel_rfl) (by kernel_rfl) (by kernel_rfl) (fun _ _ _ h => h) (Or.inl ⟨by rfl, by (intro w hSw; (try dsimp only at hSw); (try obtain hSw := hSw); go_simp; try with_reducible rfl)⟩) (by assumption) ?_; simp only [Act.put, List.setIfInBounds_toArray, List.set_cons_succ, List.set_cons_zero]
      refine htake (i := 11) (v := (.pointer (some ⟨go, j * 16, none⟩))) rfl (by kernel_rfl) (by kernel_rfl) (by kernel_rfl) (fun _ _ _ h => h) (Or.inl ⟨by rfl, by (intro w hSw; (try dsimp only at hSw); (try obtain hSw := hSw); go_simp; try with_reducible rfl)⟩) (by assumption) ?_; simp only [Act.put, List.setIfInBounds_toArray, List.set_cons_succ, List.set_cons_zero]
      refine htake (i := 13) (v := (.pointer (some ⟨go, 512, none⟩))) rfl (by kernel_rfl) (by kernel_rfl) (by kernel_rfl) (fun _ _ _ h => h) (Or.inl ⟨by rfl, by (intro w hSw; (try dsimp only at hSw); (try obtain hSw := hSw); go_simp; try with_reducible rfl)⟩) (by assumption) ?_; simp only [Act.put, List.setIfInBounds_toArray, List.set_cons_succ, List.set_cons_zero]
      refine wpAnyH_ready (rs := [12]) (by kernel_rfl) (by simp) ?_
      refine hcons rfl rfl (fun K hK => ?_) ?_
      · clear hHeld
        refine owp_store hS 2 rfl rfl rfl rfl Hl1.out (by rw [Hle1.out]; omega) (bs_one _) Hc1.out ?_
        clear hS; intro _ hS; try simp only [List.cons_append, List.nil_append, List.append_nil, List.set_cons_zero, List.set_cons_succ] at hS
        refine hK.out _ _ ⟨(hS.get 0 rfl).range _ _ Hp.out, (hS.get 0 rfl).range _ _ Hq.out⟩ (fun hHeld => ?_)
        clear hK K
        simp only [Act.put, List.setIfInBounds_toArray, List.set_cons_succ, List.set_cons_zero]
        refine htake (i := 14) (v := (.pointer (some ⟨go, 512 + j * 16, none⟩))) rfl (by kernel_rfl) (by kernel_rfl) (by kernel_rfl) (fun _ _ _ h => h) (Or.inl ⟨by rfl, by (intro w hSw; (try dsimp only at hSw); (try obtain hSw := hSw); go_simp; try with_reducible rfl)⟩) (by assumption) ?_; simp only [Act.put, List.setIfInBounds_toArray, List.set_cons_succ, List.set_cons_zero]
        refine wpAnyH_ready (rs := [15]) (by kernel_rfl) (by simp) ?_
        refine hcons rfl rfl (fun K hK => ?_) ?_
        · clear hHeld
          refine owp_store hS 2 rfl rfl rfl rfl Hl2.out (by rw [Hle2.out]; omega) (bs_one _) Hc2.out ?_
          clear hS; intro _ hS; try simp only [List.cons_append, List.nil_append, List.append_nil, List.set_cons_zero, List.set_cons_succ] at hS
          refine hK.out _ _ ⟨(hS.get 0 rfl).range _ _ Hp.out, (hS.get 0 rfl).range _ _ Hq.out⟩ (fun hHeld => ?_)
          clear hK K
          simp only [Act.put, List.setIfInBounds_toArray, List.set_cons_succ, List.set_cons_zero]
          refine wpAnyH_done (by kernel_rfl) ?_ _
          clear hHeld
          go_wp2_with fail
          go_roundw
          case rel =>
            refine ⟨j + 1, by omega, by go_num, ?_⟩
            rw [Nat.add_mul]
            exact hS
          case measure => simp [intOf]; omega
        exact AllReadyH.nil
      exact AllReadyH.nil
    · have hjk : j = 32 := by omega
      subst hjk
      rw [show lampPart x y (32 * 16) (32 * 16) = cs from Hfin.out] at hS
      have Hlen := Lib.hid (show cs.length = 1024 by rw [← Hfin.out]; exact lampPart_len h1 h2 (by omega) (by omega))
      have Hone := Lib.hid (show ∀ v, v ∈ cs → v.oneCell' = true by rw [← Hfin.out]; exact lampPart_one _ _ _ _)
      go_wp2_with (first | ((with_reducible show wpList _ _ _ (Oper.mk _ (Op.load _ _) _ _ _ _ :: _) _ _); refine wpl rfl ?_; refine (owp_loadW hS 2 rfl rfl rfl (Hlen.out) ?_)) | ((with_reducible show wpList _ _ _ (Oper.mk _ (Op.store _ _ _) _ _ _ _ :: _) _ _); refine wpl rfl ?_; refine (owp_storeW hS 1 rfl rfl rfl rfl (Hlen.out) (lzero_len) (Hone.out) ?_); clear hS; intro _ hS; try simp only [List.cons_append, List.nil_append, List.append_nil, List.set_cons_zero, List.set_cons_succ] at hS))
      (try simp only [Exit.inBlock, Exit.then]); refine bodyPost_ret (res_cell rfl rfl hS 1 rfl (Hlen.out)) rfl ?_
      exact ⟨rfl, hS.pick [] rfl (by decide)⟩

end Go.Proofs.Ytldmkafobbemjaa
