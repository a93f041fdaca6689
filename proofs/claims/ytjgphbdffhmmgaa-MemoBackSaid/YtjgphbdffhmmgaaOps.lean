/-
  One law for each operation of the walk that touches memory, over a list of known blocks.
-/
import Derived.Test.YtjgphbdffhmmgaaBase
namespace Go.Proofs.Ytjgphbdffhmmgaa
set_option linter.unusedSimpArgs false
set_option linter.unusedVariables false
open Go Go.RowKit

def aggD : TypeDesc → Bool
  | .struct _ | .array _ _ => true
  | _ => false

class TyOK (P : Program) (ty : TypeId) (agg : outParam Bool) (n : outParam Nat) : Prop where
  und : ∃ d, P.underlying ty = some d ∧ aggD d = agg
  size : (P.info? ty).map (·.size) = some n

class ZeroOK (P : Program) (ty : TypeId) (zs : outParam (List Value)) : Prop where
  zero : ((P.info? ty).bind (·.zero)).map (·.cells) = some zs.toArray

class SliceOK (P : Program) (T : TypeId) (e : outParam TypeId) (size : outParam Nat) (bytes : outParam Nat) : Prop where
  und : P.underlying T = some (.slice e)
  info : ∃ i z, P.info? e = some i ∧ i.zero = some z ∧ i.size = size ∧ i.bytes = bytes ∧ z.cells.size = size ∧ 0 < size

section
variable {P : Program} {ops : Array Oper} {Q : Exit → Act → World → Prop} {K : Act → World → Prop} {a : Act} {w : World} {rest : List Oper} {o : Oper}

theorem wpl (hw : Region.wanted o (yielded ops a.tmps) = true) (h : o.wp P a w (wpList P ops Q rest) Q) : wpList P ops Q (o :: rest) a w := by
  unfold wpList
  rw [if_pos hw]
  exact .inl h

theorem owp_val {v : Value} {w1 : World} (hr : (execOp a.eval o).run P w = .ok (.value v) w1) (h : K (a.put o.dst v) w1) : o.wp P a w K Q := by
  unfold Oper.wp
  rw [hr]
  exact h

theorem owp_skip {w1 : World} (hr : (execOp a.eval o).run P w = .ok .skip w1) (h : K (a.put o.dst undef) w1) : o.wp P a w K Q := by
  unfold Oper.wp
  rw [hr]
  exact h

theorem add_zero (g off j : Nat) : (⟨g, off, none⟩ : Addr).add j = ⟨g, off + j, none⟩ := by
  unfold Addr.add
  split <;> simp_all

/-- The cells from an address on. -/
def CellsAt (w : World) (ad : Addr) (vs : List Value) : Prop := ∀ j v, vs[j]? = some v → w.cell? (ad.add j) = some v

theorem cell_row {w : World} {g : Nat} {cs : Array Value} {T : TypeId} {fr : Nat × Nat} (h : w.heap[g]? = some (.cells cs T fr)) (j : Nat) : w.cell? ⟨g, j, none⟩ = cs[j]? := by
  simp [World.cell?, h]

theorem CellsAt.row {w : World} {g off n : Nat} {cs : Array Value} {T : TypeId} {fr : Nat × Nat} (h : w.heap[g]? = some (.cells cs T fr)) : CellsAt w ⟨g, off, none⟩ ((cs.toList.drop off).take n) := by
  intro j v hv
  rw [add_zero, cell_row h]
  rw [List.getElem?_take] at hv
  split at hv
  · rw [List.getElem?_drop] at hv
    simpa using hv
  · cases hv

theorem CellsAt.drew {ad : Addr} {vs : List Value} (h : CellsAt w ad vs) : CellsAt w.drew ad vs := h

theorem agg_run {ty : TypeId} {agg : Bool} {n : Nat} (h : TyOK P ty agg n) (w : World) : (isAgg ty).run P w = .ok agg w := by
  obtain ⟨⟨d, hd, ha⟩, _⟩ := h
  unfold isAgg
  rw [Sem.run_bind, run_underlying hd w]
  cases d <;> simp_all [aggD]

theorem size_run {ty : TypeId} {agg : Bool} {n : Nat} (h : TyOK P ty agg n) (w : World) : (sizeOf ty).run P w = .ok n w := by
  obtain ⟨_, hs⟩ := h
  cases hq : P.info? ty with
  | none => simp [hq] at hs
  | some i => simp [hq] at hs; simp [sizeOf, typeInfo, hq, hs]

theorem run_loadVar_agg {ty : TypeId} {n : Nat} [h : TyOK P ty true n] {ad : Addr} {vs : List Value} (hc : CellsAt w ad vs) (hn : vs.length = n) :
    (loadVar ty ad).run P w = .ok (.agg vs.toArray) w := by
  have hl := run_loadCells_list (P := P) w ad vs hc
  rw [hn] at hl
  simp [loadVar, Sem.run_bind, agg_run h, size_run h, hl]

theorem run_loadVar_one {ty : TypeId} {n : Nat} [h : TyOK P ty false n] {ad : Addr} {v : Value} (hc : w.cell? ad = some v) :
    (loadVar ty ad).run P w = .ok v w := by
  simp [loadVar, Sem.run_bind, agg_run h, load, Sem.run, hc]

theorem owp_loadR {ty : TypeId} {x : Operand} (ho : o.op = .load ty x) {ad : Addr} (hx : a.eval x = .pointer (some ad)) {n : Nat} [h : TyOK P ty true n]
    {vs : List Value} (hc : CellsAt w ad vs) (hn : vs.length = n) (hk : K (a.put o.dst (.agg vs.toArray)) w) : o.wp P a w K Q := by
  refine owp_val (w1 := w) (v := .agg vs.toArray) ?_ hk
  unfold execOp
  simp only [ho, hx, Instr.loadAt, Instr.sureAddr, Sem.run_bind, Sem.run_pure, Result.andThen_ok, run_loadVar_agg hc hn]

theorem owp_loadR1 {ty : TypeId} {x : Operand} (ho : o.op = .load ty x) {ad : Addr} (hx : a.eval x = .pointer (some ad)) {n : Nat} [h : TyOK P ty false n]
    {v : Value} (hc : w.cell? ad = some v) (hk : K (a.put o.dst v) w) : o.wp P a w K Q := by
  refine owp_val (w1 := w) (v := v) ?_ hk
  unfold execOp
  simp only [ho, hx, Instr.loadAt, Instr.sureAddr, Sem.run_bind, Sem.run_pure, Result.andThen_ok, run_loadVar_one (ty := ty) hc]

section
variable {w0 : World} {A : List Nat} {L : List Ent} (hS : St w0 A w L)
include hS

theorem owp_load (i : Nat) {ty : TypeId} {x : Operand} (ho : o.op = .load ty x) {g off : Nat} (hx : a.eval x = .pointer (some ⟨g, off, none⟩))
    {cs : List Value} {T : TypeId} (hi : L[i]? = some (some (g, cs, T))) {n : Nat} [h : TyOK P ty true n]
    {vs : List Value} (hv : (cs.drop off).take n = vs) (hn : vs.length = n) (hk : K (a.put o.dst (.agg vs.toArray)) w) : o.wp P a w K Q := by
  subst hv
  refine owp_loadR ho hx (h := h) ?_ hn hk
  have := CellsAt.row (off := off) (n := n) (hS.has _ (mem_getElem? hi) _ _ _ rfl)
  simpa using this

theorem owp_load1 (i : Nat) {ty : TypeId} {x : Operand} (ho : o.op = .load ty x) {g off : Nat} (hx : a.eval x = .pointer (some ⟨g, off, none⟩))
    {cs : List Value} {T : TypeId} (hi : L[i]? = some (some (g, cs, T))) {n : Nat} [h : TyOK P ty false n]
    {v : Value} (hv : cs[off]? = some v) (hk : K (a.put o.dst v) w) : o.wp P a w K Q := by
  refine owp_loadR1 ho hx (h := h) ?_ hk
  rw [cell_row (hS.has _ (mem_getElem? hi) _ _ _ rfl)]
  simpa using hv

theorem owp_alloc {T : TypeId} (ho : o.op = .alloc T) {zs : List Value} [hz : ZeroOK P T zs]
    (hk : ∀ g w1, St w0 A w1 (L ++ [some (g, zs, T)]) → K (a.put o.dst (.pointer (some ⟨g, 0, none⟩))) w1) : o.wp P a w K Q := by
  refine owp_val (w1 := w.alloc (.cells zs.toArray T)) (v := .pointer (some ⟨w.heap.size, 0, none⟩)) ?_ (hk _ _ (hS.alloc zs T))
  obtain ⟨hz⟩ := hz
  cases hq : P.info? T with
  | none => simp [hq] at hz
  | some i =>
    cases hq2 : i.zero with
    | none => simp [hq, hq2] at hz
    | some z =>
      simp [hq, hq2] at hz
      unfold execOp
      simp [ho, Instr.alloc, zeroValue, typeInfo, hq, hq2, newVar, newRow, newObj, Sem.run, hz]

theorem owp_allocAt (d : Tmp) (hd : o.dst = some d) {T : TypeId} (ho : o.op = .alloc T) {zs : List Value} [hz : ZeroOK P T zs]
    (hk : ∀ g w1, St w0 A w1 (L ++ [some (g, zs, T)]) → K (a.put o.dst (.pointer (some ⟨g, 0, none⟩))) w1) : o.wp P a w K Q := owp_alloc hS ho hk

theorem run_storeVar {ty : TypeId} {agg : Bool} {n : Nat} [h : TyOK P ty agg n] {i : Nat} {g off : Nat} {cs : List Value} {T : TypeId} (hi : L[i]? = some (some (g, cs, T)))
    {y : Value} {vs : List Value} (hy : y.cells = vs.toArray) (hn : vs.length = n) (hle : off + n ≤ cs.length) (h1 : ∀ v, v ∈ vs → v.oneCell' = true) :
    (storeVar ty ⟨g, off, none⟩ y).run P w = .ok () (w.setRow g (cs.take off ++ vs ++ cs.drop (off + n)).toArray) := by
  have hst := run_storeCells_at P g off T vs 0 cs.toArray w (hS.has _ (mem_getElem? hi) _ _ _ rfl) (by simp; omega) h1
  subst hn
  simp [storeVar, size_run h, hy, hst, List.append_assoc]

theorem owp_store (i : Nat) {ty : TypeId} {x y : Operand} (ho : o.op = .store ty x y) {g off : Nat} (hx : a.eval x = .pointer (some ⟨g, off, none⟩))
    {cs : List Value} {T : TypeId} (hi : L[i]? = some (some (g, cs, T))) {agg : Bool} {n : Nat} [h : TyOK P ty agg n]
    {vs : List Value} (hy : (a.eval y).cells = vs.toArray) (hn : vs.length = n) (hle : off + n ≤ cs.length) (h1 : ∀ v, v ∈ vs → v.oneCell' = true)
    {cs' : List Value} (hcs : cs.take off ++ vs ++ cs.drop (off + n) = cs')
    (hk : ∀ w1, St w0 A w1 (L.set i (some (g, cs', T))) → K (a.put o.dst undef) w1) : o.wp P a w K Q := by
  subst hcs
  refine owp_skip (w1 := w.setRow g (cs.take off ++ vs ++ cs.drop (off + n)).toArray) ?_ (hk _ (hS.setRow hi _))
  unfold execOp
  simp only [ho, hx, Instr.storeAt, Instr.sureAddr, Sem.run_bind, Sem.run_pure, Result.andThen_ok, run_storeVar hS (ty := ty) hi hy hn hle h1]

/-- One cell. -/
theorem owp_store1 (i : Nat) {ty : TypeId} {x y : Operand} (ho : o.op = .store ty x y) {g off : Nat} (hx : a.eval x = .pointer (some ⟨g, off, none⟩))
    {cs : List Value} {T : TypeId} (hi : L[i]? = some (some (g, cs, T))) {agg : Bool} [h : TyOK P ty agg 1]
    {v : Value} (hy : a.eval y = v) (h1 : v.oneCell' = true) (hle : off < cs.length)
    {cs' : List Value} (hcs : cs.set off v = cs')
    (hk : ∀ w1, St w0 A w1 (L.set i (some (g, cs', T))) → K (a.put o.dst undef) w1) : o.wp P a w K Q := by
  subst hcs
  refine owp_store hS i ho hx hi (h := h) (vs := [v]) (by rw [hy]; cases v <;> first | rfl | cases h1) rfl hle (by simpa using h1) ?_ hk
  rw [List.set_eq_take_append_cons_drop, if_pos hle]
  simp

end
end

end Go.Proofs.Ytjgphbdffhmmgaa
