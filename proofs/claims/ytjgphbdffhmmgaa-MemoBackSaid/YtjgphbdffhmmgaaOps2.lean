/-
  A call of a Go function by its contract, as one operation; the ends of functions whose results lie in cells.
-/
import Derived.Test.YtjgphbdffhmmgaaIn4
namespace Go.Proofs.Ytjgphbdffhmmgaa
set_option linter.unusedSimpArgs false
set_option linter.unusedVariables false
open Go Go.RowKit
section
variable {P : Program} {ops : Array Oper} {Q : Exit → Act → World → Prop} {K : Act → World → Prop} {a : Act} {w : World} {rest : List Oper} {o : Oper}

def goBody (P : Program) (f : FuncId) : Bool := ((P.funcs[f]?).map (fun fn => !(fn.name == "runtime.NumGoroutine") && fn.body.isSome)).getD false

theorem rstep {E : Prop} (hw : Region.wanted o (yielded ops a.tmps) = true) (h : o.wp P a w K Q) :
    if Region.wanted o (yielded ops a.tmps) = true then Oper.wp P o a w K Q else E := by
  rw [if_pos hw]; exact h

theorem rcons {md : Region.Mode} {fuel : Nat} {listed : Array Bool} {i : Nat} {rs : List Nat} (ho : ops.toList[i]? = some o) (hw : Region.wanted o (yielded ops a.tmps) = true)
    (h : ∀ K' : Act → World → Prop, (∀ a w, wpAny P md ops Q fuel (listed.setIfInBounds i true) a w → K' a w) → Oper.wp P o a w K' Q)
    (hs : AllReady P md ops Q fuel listed a w rs) : AllReady P md ops Q fuel listed a w (i :: rs) :=
  AllReady.cons (o := o) (by simpa using ho) (fun K' hK => by rw [if_pos hw]; exact h K' hK) hs

theorem rtake {md : Region.Mode} {i : Nat} {v : Value} {fuel : Nat} {listed : Array Bool} (hi : ops.toList[i]? = some o)
    (hs : Region.noSelect ops = true) (hf : Region.free md ops listed i = true) (hr : (Region.ready md ops listed).contains i = true)
    (hQ : ∀ c a w, Q (.panic c) (a.put o.dst v) w → Q (.panic c) a w) (hy : Yields P ops o v a)
    (h : wpAny P md ops Q fuel (listed.setIfInBounds i true) (a.put o.dst v) w) : wpAny P md ops Q (fuel + 1) listed a w :=
  wpAny_take (oi := o) (by simpa using hi) hs hf hr hQ hy h

theorem owp_call {f : FuncId} {xs : Array Operand} {ts : Array TypeId} (ho : o.op = .call { callee := .value (.func f), args := xs, argTypes := ts }) (hf : goBody P f = true)
    {args : Array Value} (hx : xs.toList.map a.eval = args.toList) {R : Ending → World → Prop} (hc : Calls P f args w R)
    (hk : ∀ e w', R e w' → ∃ v, e = .returned v ∧ K (a.put o.dst v) w') : o.wp P a w K Q := by
  replace hx : xs.map a.eval = args := by
    apply Array.ext'
    rw [Array.toList_map]
    exact hx
  have hrun : (execOp a.eval o).run P w = .ok (.enter f args) w := by
    unfold goBody at hf
    cases hq : P.funcs[f]? with
    | none => simp [hq] at hf
    | some fn =>
      cases hb : fn.body with
      | none => simp [hq, hb] at hf
      | some body =>
        simp [hq, hb] at hf
        unfold execOp
        simp [ho, resolve, Act.eval, Deferred.ofValue, invoke, callFunc, hq, hb, hx, hf]
  unfold Oper.wp
  rw [hrun]
  refine hc.mono ?_
  intro e w' h
  obtain ⟨v, rfl, hk⟩ := hk e w' h
  exact hk

section
variable {w0 : World} {A : List Nat} {L : List Ent} (hS : St w0 A w L)
include hS
/-- A whole block is read. -/
theorem owp_loadW (i : Nat) {ty : TypeId} {x : Operand} (ho : o.op = .load ty x) {g : Nat} (hx : a.eval x = .pointer (some ⟨g, 0, none⟩))
    {cs : List Value} {T : TypeId} (hi : L[i]? = some (some (g, cs, T))) {n : Nat} [h : TyOK P ty true n]
    (hn : cs.length = n) (hk : K (a.put o.dst (.agg cs.toArray)) w) : o.wp P a w K Q := by
  refine owp_load hS i ho hx hi (h := h) (vs := cs) ?_ hn hk
  rw [List.drop_zero, ← hn, List.take_length]

/-- A whole block is written. -/
theorem owp_storeW (i : Nat) {ty : TypeId} {x y : Operand} (ho : o.op = .store ty x y) {g : Nat} (hx : a.eval x = .pointer (some ⟨g, 0, none⟩))
    {cs : List Value} {T : TypeId} (hi : L[i]? = some (some (g, cs, T))) {agg : Bool} {n : Nat} [h : TyOK P ty agg n]
    {vs : List Value} (hy : a.eval y = .agg vs.toArray) (hn : vs.length = n) (hle : cs.length = n) (h1 : ∀ v, v ∈ vs → v.oneCell' = true)
    (hk : ∀ w1, St w0 A w1 (L.set i (some (g, vs, T))) → K (a.put o.dst undef) w1) : o.wp P a w K Q := by
  refine owp_store hS i ho hx hi (h := h) (vs := vs) (by rw [hy]; rfl) hn (by omega) h1 (cs' := vs) ?_ hk
  rw [List.take_zero, List.nil_append, Nat.zero_add, ← hle, List.drop_length, List.append_nil]
end

theorem res_cell {fn : Func} {p : Tmp} {ty : TypeId} (h : fn.results = #[.cell p ty]) {n : Nat} [hty : TyOK P ty true n] {tmps : Array Value} {g : Nat}
    (hp : tmps.getD p undef = .pointer (some ⟨g, 0, none⟩)) {w0 : World} {A : List Nat} {L : List Ent} (hS : St w0 A w L) (i : Nat) {cs : List Value} {T : TypeId}
    (hi : L[i]? = some (some (g, cs, T))) (hn : cs.length = n) : (results fn tmps).run P w = .ok (.agg cs.toArray) w := by
  have hc : CellsAt w ⟨g, 0, none⟩ cs := by
    have := CellsAt.row (off := 0) (n := cs.length) (hS.get i hi _ _ _ rfl)
    simpa using this
  have hp' : tmps[p]?.getD undef = .pointer (some ⟨g, 0, none⟩) := by simpa using hp
  simp [results, h, hp', asAddr, run_loadVar_agg (P := P) (ty := ty) hc hn]

theorem res_cell2 {fn : Func} {p q : Tmp} {ty : TypeId} (h : fn.results = #[.cell p ty, .tmp q]) {n : Nat} [hty : TyOK P ty true n] {tmps : Array Value} {g : Nat}
    (hp : tmps.getD p undef = .pointer (some ⟨g, 0, none⟩)) {w0 : World} {A : List Nat} {L : List Ent} (hS : St w0 A w L) (i : Nat) {cs : List Value} {T : TypeId}
    (hi : L[i]? = some (some (g, cs, T))) (hn : cs.length = n) : (results fn tmps).run P w = .ok (.tuple #[.agg cs.toArray, tmps.getD q undef]) w := by
  have hc : CellsAt w ⟨g, 0, none⟩ cs := by
    have := CellsAt.row (off := 0) (n := cs.length) (hS.get i hi _ _ _ rfl)
    simpa using this
  have hp' : tmps[p]?.getD undef = .pointer (some ⟨g, 0, none⟩) := by simpa using hp
  simp [results, h, hp', asAddr, run_loadVar_agg (P := P) (ty := ty) hc hn]
end
end Go.Proofs.Ytjgphbdffhmmgaa
