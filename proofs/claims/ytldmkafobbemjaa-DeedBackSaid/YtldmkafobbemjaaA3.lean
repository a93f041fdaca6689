/-
  A call of a Go function by its contract, as one operation; the ends of functions whose results lie in cells.
  Struct and slice literals: what their parts make.
  Regions that draw their order under a condition on the world: steps as the generator prints them.
  What the program's reader of bytes does: sums.
  A payment and a wish, as they are taken off bytes by the program.
  A wish, as it is taken off bytes by the program.
  A trail, as it is taken off bytes by the program.
-/
import Derived.Test.YtldmkafobbemjaaA2
import Derived.Deep.RegionHeld
import Derived.Deep.RegionLaw
namespace Go.Proofs.Ytldmkafobbemjaa
set_option linter.unusedSimpArgs false
set_option linter.unusedVariables false
open Go Go.RowKit
section
variable {P : Program} {ops : Array Oper} {Q : Exit → Act → World → Prop} {K : Act → World → Prop} {a : Act} {w : World} {rest : List Oper} {o : Oper}

def goBody (P : Program) (f : FuncId) : Bool := ((P.funcs[f]?).map (fun fn => !(fn.name == "runtime.NumGoroutine") && fn.body.isSome)).getD false

theorem rstep {E : Prop} (hw : Region.wanted o (yielded ops a.tmps) = true) (h : o.wp P a w K Q) :
    if Region.wanted o (yielded ops a.tmps) = true then Oper.wp P o a w K Q else E := by
  rw [if_pos hw]; exact h

theorem rcons {md : Region.Mode} {fuel : Nat} {listed : Array Bool} {i : Nat} {rs : List Nat} (ho : ops.toList[i]? = some o) (hw : Region.wanted o (yielded ops a.tmps) = true)
    (h : ∀ K' : Act → World → Prop, (∀ a w, wpAny P md ops Q fuel (listed.setIfInBounds i true) a w → K' a w) → Oper.wp P o a w K' Q)
    (hs : AllReady P md ops Q fuel listed a w rs) : AllReady P md ops Q fuel listed a w (i :: rs) :=
  AllReady.cons (o := o) (by simpa using ho) (fun K' hK => by rw [if_pos hw]; exact h K' hK) hs

theorem rtake {md : Region.Mode} {i : Nat} {v : Value} {fuel : Nat} {listed : Array Bool} (hi : ops.toList[i]? = some o)
    (hs : Region.noSelect ops = true) (hf : Region.free md ops listed i = true) (hr : (Region.ready md ops listed).contains i = true)
    (hQ : ∀ c a w, Q (.panic c) (a.put o.dst v) w → Q (.panic c) a w) (hy : Yields P ops o v a)
    (h : wpAny P md ops Q fuel (listed.setIfInBounds i true) (a.put o.dst v) w) : wpAny P md ops Q (fuel + 1) listed a w :=
  wpAny_take (oi := o) (by simpa using hi) hs hf hr hQ hy h

theorem owp_call {f : FuncId} {xs : Array Operand} {ts : Array TypeId} (ho : o.op = .call { callee := .value (.func f), args := xs, argTypes := ts }) (hf : goBody P f = true)
    {args : Array Value} (hx : xs.toList.map a.eval = args.toList) {R : Ending → World → Prop} (hc : Calls P f args w R)
    (hk : ∀ e w', R e w' → ∃ v, e = .returned v ∧ K (a.put o.dst v) w') : o.wp P a w K Q := by
  replace hx : xs.map a.eval = args := by
    apply Array.ext'
    rw [Array.toList_map]
    exact hx
  have hrun : (execOp a.eval o).run P w = .ok (.enter f args) w := by
    unfold goBody at hf
    cases hq : P.funcs[f]? with
    | none => simp [hq] at hf
    | some fn =>
      cases hb : fn.body with
      | none => simp [hq, hb] at hf
      | some body =>
        simp [hq, hb] at hf
        unfold execOp
        simp [ho, resolve, Act.eval, Deferred.ofValue, invoke, callFunc, hq, hb, hx, hf]
  unfold Oper.wp
  rw [hrun]
  refine hc.mono ?_
  intro e w' h
  obtain ⟨v, rfl, hk⟩ := hk e w' h
  exact hk

section
variable {w0 : World} {A : List Nat} {L : List Ent} (hS : St w0 A w L)
include hS
/-- A whole block is read. -/
theorem owp_loadW (i : Nat) {ty : TypeId} {x : Operand} (ho : o.op = .load ty x) {g : Nat} (hx : a.eval x = .pointer (some ⟨g, 0, none⟩))
    {cs : List Value} {T : TypeId} (hi : L[i]? = some (some (g, cs, T))) {n : Nat} [h : TyOK P ty true n]
    (hn : cs.length = n) (hk : K (a.put o.dst (.agg cs.toArray)) w) : o.wp P a w K Q := by
  refine owp_load hS i ho hx hi (h := h) (vs := cs) ?_ hn hk
  rw [List.drop_zero, ← hn, List.take_length]

/-- A whole block is written. -/
theorem owp_storeW (i : Nat) {ty : TypeId} {x y : Operand} (ho : o.op = .store ty x y) {g : Nat} (hx : a.eval x = .pointer (some ⟨g, 0, none⟩))
    {cs : List Value} {T : TypeId} (hi : L[i]? = some (some (g, cs, T))) {agg : Bool} {n : Nat} [h : TyOK P ty agg n]
    {vs : List Value} (hy : a.eval y = .agg vs.toArray) (hn : vs.length = n) (hle : cs.length = n) (h1 : ∀ v, v ∈ vs → v.oneCell' = true)
    (hk : ∀ w1, St w0 A w1 (L.set i (some (g, vs, T))) → K (a.put o.dst undef) w1) : o.wp P a w K Q := by
  refine owp_store hS i ho hx hi (h := h) (vs := vs) (by rw [hy]; rfl) hn (by omega) h1 (cs' := vs) ?_ hk
  rw [List.take_zero, List.nil_append, Nat.zero_add, ← hle, List.drop_length, List.append_nil]
end

theorem res_cell {fn : Func} {p : Tmp} {ty : TypeId} (h : fn.results = #[.cell p ty]) {n : Nat} [hty : TyOK P ty true n] {tmps : Array Value} {g : Nat}
    (hp : tmps.getD p undef = .pointer (some ⟨g, 0, none⟩)) {w0 : World} {A : List Nat} {L : List Ent} (hS : St w0 A w L) (i : Nat) {cs : List Value} {T : TypeId}
    (hi : L[i]? = some (some (g, cs, T))) (hn : cs.length = n) : (results fn tmps).run P w = .ok (.agg cs.toArray) w := by
  have hc : CellsAt w ⟨g, 0, none⟩ cs := by
    have := CellsAt.row (off := 0) (n := cs.length) (hS.get i hi _ _ _ rfl)
    simpa using this
  have hp' : tmps[p]?.getD undef = .pointer (some ⟨g, 0, none⟩) := by simpa using hp
  simp [results, h, hp', asAddr, run_loadVar_agg (P := P) (ty := ty) hc hn]

theorem res_cell2 {fn : Func} {p q : Tmp} {ty : TypeId} (h : fn.results = #[.cell p ty, .tmp q]) {n : Nat} [hty : TyOK P ty true n] {tmps : Array Value} {g : Nat}
    (hp : tmps.getD p undef = .pointer (some ⟨g, 0, none⟩)) {w0 : World} {A : List Nat} {L : List Ent} (hS : St w0 A w L) (i : Nat) {cs : List Value} {T : TypeId}
    (hi : L[i]? = some (some (g, cs, T))) (hn : cs.length = n) : (results fn tmps).run P w = .ok (.tuple #[.agg cs.toArray, tmps.getD q undef]) w := by
  have hc : CellsAt w ⟨g, 0, none⟩ cs := by
    have := CellsAt.row (off := 0) (n := cs.length) (hS.get i hi _ _ _ rfl)
    simpa using this
  have hp' : tmps[p]?.getD undef = .pointer (some ⟨g, 0, none⟩) := by simpa using hp
  simp [results, h, hp', asAddr, run_loadVar_agg (P := P) (ty := ty) hc hn]
end
end Go.Proofs.Ytldmkafobbemjaa
namespace Go.Proofs.Ytldmkafobbemjaa
set_option linter.unusedSimpArgs false
set_option linter.unusedVariables false
open Go Go.RowKit

theorem fill_foldl (off : Nat) : ∀ (vs : List Value) (k : Nat) (cs : List Value), off + k + vs.length ≤ cs.length →
    ((vs.zipIdx k).foldl (fun (cs : Array Value) (x : Value × Nat) => cs.setIfInBounds (off + x.2) x.1) cs.toArray) = (cs.take (off + k) ++ vs ++ cs.drop (off + k + vs.length)).toArray
  | [], k, cs, _ => by simp
  | v :: vs, k, cs, h => by
    simp only [List.length_cons] at h
    simp only [List.zipIdx_cons, List.foldl_cons]
    have e : cs.toArray.setIfInBounds (off + k) v = (cs.set (off + k) v).toArray := by simp
    rw [e, fill_foldl off vs (k + 1) (cs.set (off + k) v) (by simp; omega)]
    congr 1
    have h1 : (cs.set (off + k) v).take (off + (k + 1)) = cs.take (off + k) ++ [v] := by
      rw [show off + (k + 1) = (off + k) + 1 by omega, List.take_succ_eq_append_getElem (by simp; omega)]
      simp [List.take_set_of_le]
    have h2 : (cs.set (off + k) v).drop (off + (k + 1) + vs.length) = cs.drop (off + k + (v :: vs).length) := by
      rw [List.drop_set_of_lt (by omega)]
      congr 1
      simp; omega
    rw [h1, h2]
    simp

theorem fill_part (place : Nat → Option (Nat × Nat)) (cs : List Value) (i : Nat) (v : Value) (rest : List (Nat × Value)) (off size : Nat) (hp : place i = some (off, size))
    (vs : List Value) (hv : v.cells = vs.toArray) (hs : vs.length = size) (hle : off + size ≤ cs.length) :
    Instr.fill place cs.toArray ((i, v) :: rest) = Instr.fill place (cs.take off ++ vs ++ cs.drop (off + size)).toArray rest := by
  have h := fill_foldl off vs 0 cs (by omega)
  simp only [Nat.add_zero] at h
  subst hs
  have h2 : ((vs.toArray.zipIdx.foldl (fun (cs : Array Value) (x : Value × Nat) => cs.setIfInBounds (off + x.2) x.1) cs.toArray)) = (cs.take off ++ vs ++ cs.drop (off + vs.length)).toArray := by
    rw [← h]
    simp
  rw [← h2]
  conv => lhs; unfold Instr.fill
  rw [hp]
  simp only [hv, List.size_toArray]
  rw [if_neg (by simp; omega)]

theorem madeCells_eq (zs : List Value) (n : Nat) (h : zs.length = n) : (Array.range n).map (zs.toArray[· % zs.toArray.size]!) = zs.toArray := by
  apply Array.ext
  · simp [h]
  · intro i h1 h2
    simp at h1 h2
    simp [Nat.mod_eq_of_lt h2, h2]

section
variable {P : Program} {ops : Array Oper} {Q : Exit → Act → World → Prop} {K : Act → World → Prop} {a : Act} {w : World} {rest : List Oper} {o : Oper}
variable {w0 : World} {A : List Nat} {L : List Ent} (hS : St w0 A w L)
include hS

theorem owp_bslice0 {T e : TypeId} (ho : o.op = .buildSlice T 0 #[]) {size bytes : Nat} [hT : SliceOK P T e size bytes]
    (hk : ∀ g w1, St w0 A w1 (L ++ [some (g, [], e)]) → K (a.put o.dst (.slice (some ⟨g, 0, none⟩) 0 0)) w1) : o.wp P a w K Q := by
  refine owp_bslice hS (cs := []) (zs := []) ho (hT := hT) (by omega) (.inl (by omega)) ?_ hk
  simp [Instr.fill]

/-- A slice literal of one element. -/
theorem owp_bslice1 {T e : TypeId} {x : Operand} (ho : o.op = .buildSlice T 1 #[(0, x)]) {size bytes : Nat} [hT : SliceOK P T e size bytes] {zs : List Value} [hz : ZeroOK P e zs]
    {vs : List Value} (hx : (a.eval x).cells = vs.toArray) (hl : vs.length = size) (hsz : size ≤ 16777216)
    (hk : ∀ g w1, St w0 A w1 (L ++ [some (g, vs, e)]) → K (a.put o.dst (.slice (some ⟨g, 0, none⟩) 1 1)) w1) : o.wp P a w K Q := by
  have hzl : zs.length = size := by
    obtain ⟨_, i, z, hi, hzz, hsize, _, hc, _⟩ := hT
    obtain ⟨hz⟩ := hz
    simp [hi, hzz] at hz
    rw [hz] at hc
    simpa using hc
  refine owp_bslice hS (cs := vs) (zs := zs) ho (hT := hT) (by omega) (.inr hz) ?_ hk
  rw [Nat.one_mul, madeCells_eq zs size hzl]
  have := fill_part (fun i => some (i * size, size)) zs 0 (a.eval x) [] 0 size (by simp) vs hx hl (by omega)
  simp only [List.map_toArray, List.map_cons, List.map_nil]
  rw [this]
  simp [Instr.fill, hzl]

/-- A slice literal of two one-cell elements. -/
theorem owp_bslice2 {T e : TypeId} {x y : Operand} (ho : o.op = .buildSlice T 2 #[(0, x), (1, y)]) {bytes : Nat} [hT : SliceOK P T e 1 bytes] {z : Value} [hz : ZeroOK P e [z]]
    {u v : Value} (hx : a.eval x = u) (hy : a.eval y = v) (hu : u.oneCell' = true) (hv : v.oneCell' = true)
    (hk : ∀ g w1, St w0 A w1 (L ++ [some (g, [u, v], e)]) → K (a.put o.dst (.slice (some ⟨g, 0, none⟩) 2 2)) w1) : o.wp P a w K Q := by
  refine owp_bslice hS (cs := [u, v]) (zs := [z]) ho (hT := hT) (by omega) (.inr hz) ?_ hk
  have e1 : (Array.range (2 * 1)).map ([z].toArray[· % [z].toArray.size]!) = [z, z].toArray := by
    apply Array.ext
    · simp
    · intro i h1 h2
      simp at h1 h2
      rcases i with _ | _ | i
      · simp
      · simp
      · omega
  rw [e1]
  have hcu : u.cells = [u].toArray := by cases u <;> first | rfl | cases hu
  have hcv : v.cells = [v].toArray := by cases v <;> first | rfl | cases hv
  have h1 := fill_part (fun i => some (i * 1, 1)) [z, z] 0 u [(1, v)] 0 1 (by simp) [u] hcu rfl (by simp)
  have h2 := fill_part (fun i => some (i * 1, 1)) [u, z] 1 v [] 1 1 (by simp) [v] hcv rfl (by simp)
  simp only [List.map_toArray, List.map_cons, List.map_nil, hx, hy]
  rw [h1]
  show Instr.fill (fun i => some (i * 1, 1)) [u, z].toArray [(1, v)] = _
  rw [h2]
  simp [Instr.fill]

end

/-- A struct literal. -/
theorem owp_build {P : Program} {Q : Exit → Act → World → Prop} {K : Act → World → Prop} {a : Act} {w : World} {o : Oper} {T : TypeId} {parts : Array (Nat × Operand)} (ho : o.op = .build T parts)
    (ps : List (Nat × Value)) (hps : parts.toList.map (fun x => (x.1, a.eval x.2)) = ps) {cs : List Value} (hb : (Instr.build T ps.toArray).run P w = .ok (.agg cs.toArray) w) (hk : K (a.put o.dst (.agg cs.toArray)) w) : o.wp P a w K Q := by
  refine owp_val (v := .agg cs.toArray) (w1 := w) ?_ hk
  subst hps
  have e : (parts.map fun x => (x.1, a.eval x.2)) = (parts.toList.map fun x => (x.1, a.eval x.2)).toArray := by apply Array.ext'; simp
  unfold execOp
  simp only [ho, Sem.run_bind, e, hb, Result.andThen_ok, Sem.run_pure]

/-- One cell in a box. -/
theorem owp_box {P : Program} {Q : Exit → Act → World → Prop} {K : Act → World → Prop} {a : Act} {w : World} {o : Oper} {w0 : World} {A : List Nat} {L : List Ent} (hS : St w0 A w L)
    {T : TypeId} {x : Operand} (ho : o.op = .box T x) {vs : List Value} (hx : (a.eval x).cells = vs.toArray)
    (hk : ∀ g w1, St w0 A w1 (L ++ [some (g, vs, T)]) → K (a.put o.dst (.pointer (some ⟨g, 0, none⟩))) w1) : o.wp P a w K Q := by
  refine owp_val (w1 := w.alloc (.cells vs.toArray T)) (v := .pointer (some ⟨w.heap.size, 0, none⟩)) ?_ (hk _ _ (hS.alloc vs T))
  unfold execOp
  simp [ho, Instr.box, newVar, newRow, newObj, Sem.run, hx]

theorem RowV.isSl {e : TypeId} {size n : Nat} {v : Value} {xs : List Value} {x : Ent} (h : RowV e size v n xs x) : ∃ a c, v = .slice a n c := by
  rcases h with ⟨rfl, rfl, _⟩ | ⟨g, cap, sp, rfl, _⟩
  · exact ⟨_, _, rfl⟩
  · exact ⟨_, _, rfl⟩

theorem RowV.whole {e : TypeId} {size n : Nat} {v : Value} {xs : List Value} {x : Ent} (h : RowV e size v n xs x) (hn : v ≠ .slice none 0 0) :
    ∃ g cap sp, v = .slice (some ⟨g, 0, none⟩) n cap ∧ x = some (g, xs ++ sp, e) ∧ xs.length = n * size ∧ n ≤ cap ∧ cap ≤ maxLen := by
  rcases h with ⟨rfl, _⟩ | ⟨g, cap, sp, rfl, rfl, h1, _, h2, h3⟩
  · exact (hn rfl).elim
  · exact ⟨g, cap, sp, rfl, rfl, h1, h2, h3⟩

theorem RowR.isSl {w : World} {size n : Nat} {v : Value} {xs : List Value} (h : RowR w size v n xs) : ∃ a c, v = .slice a n c := by
  rcases h.2 with ⟨rfl, rfl⟩ | ⟨ad, cap, rfl, _⟩
  · exact ⟨_, _, rfl⟩
  · exact ⟨_, _, rfl⟩

theorem CellsAt.st {w0 w : World} {ad : Addr} {vs : List Value} (h : CellsAt w0 ad vs) {A : List Nat} {L : List Ent} (hS : St w0 A w L) (hA : ad.block ∉ A) : CellsAt w ad vs := by
  intro j v hv
  have hc := h j v hv
  have hb : (ad.add j).block = ad.block := by unfold Addr.add; split <;> rfl
  have hlt := World.block_lt_of_cell? w0 _ hc
  rw [World.cell?_of_block (w := w0) (w' := w) (a := ad.add j) (hS.keep _ hlt (by rw [hb]; exact hA))]
  exact hc

theorem RowR.st {w0 w : World} {size n : Nat} {v : Value} {xs : List Value} (h : RowR w0 size v n xs) {A : List Nat} {L : List Ent} (hS : St w0 A w L)
    (hA : ∀ ad m c, v = .slice (some ad) m c → ad.block ∉ A) : RowR w size v n xs := by
  refine ⟨h.1, ?_⟩
  rcases h.2 with h | ⟨ad, cap, rfl, hc, hs, hcells⟩
  · exact .inl h
  · exact .inr ⟨ad, cap, rfl, hc, hs, hcells.st hS (hA _ _ _ rfl)⟩

theorem RowR.st0 {w0 w : World} {size n : Nat} {v : Value} {xs : List Value} (h : RowR w0 size v n xs) {L : List Ent} (hS : St w0 [] w L) : RowR w size v n xs :=
  h.st hS (fun _ _ _ _ => by simp)

end Go.Proofs.Ytldmkafobbemjaa
namespace Go.Proofs.Ytldmkafobbemjaa
set_option linter.unusedSimpArgs false
set_option linter.unusedVariables false
open Go Go.RowKit
set_option maxRecDepth 100000

section
variable {P : Program} {ops : Array Oper} {Q : Exit → Act → World → Prop} {md : Region.Mode} {S : World → Prop} {a : Act} {w : World} {o : Oper}

theorem htake {i : Nat} {v : Value} {fuel : Nat} {listed : Array Bool} (hi : ops.toList[i]? = some o)
    (hs : Region.noSelect ops = true) (hf : Region.free md ops listed i = true) (hr : (Region.ready md ops listed).contains i = true)
    (hQ : ∀ c a w, Q (.panic c) (a.put o.dst v) w → Q (.panic c) a w) (hy : YieldsIf P ops S o v a) (hS : S w)
    (h : wpAnyH P md ops Q S fuel (listed.setIfInBounds i true) (a.put o.dst v) w) : wpAnyH P md ops Q S (fuel + 1) listed a w :=
  wpAnyH_take (oi := o) (by simpa using hi) hs hf hr hQ hy hS h

theorem hcons {fuel : Nat} {listed : Array Bool} {i : Nat} {rs : List Nat} (ho : ops.toList[i]? = some o) (hw : Region.wanted o (yielded ops a.tmps) = true)
    (h : ∀ K' : Act → World → Prop, Shut (∀ a w, S w → (S w → wpAnyH P md ops Q S fuel (listed.setIfInBounds i true) a w) → K' a w) → Oper.wp P o a w K' Q)
    (hs : AllReadyH P md ops Q S fuel listed a w rs) : AllReadyH P md ops Q S fuel listed a w (i :: rs) :=
  AllReadyH.cons (o := o) (by simpa using ho) (fun K' hK => by rw [if_pos hw]; exact h K' hK) hs
end

theorem Holds.cell {w : World} {g : Nat} {cs : List Value} {T : TypeId} (h : Holds w (some (g, cs, T))) (j : Nat) {v : Value} (hv : cs[j]? = some v) : w.cell? ⟨g, j, none⟩ = some v := by
  rw [cell_row (h g cs T rfl)]
  simpa using hv

theorem St.apart {w0 w : World} {A : List Nat} {L : List Ent} (hS : St w0 A w L) (i j : Nat) {x : Ent} (hi : L[i]? = some x) {g : Nat} {cs : List Value} {T : TypeId} (hj : L[j]? = some (some (g, cs, T))) (hij : i ≠ j) {n cap : Nat} :
    ∀ ad m c, Value.slice (some ⟨g, 0, none⟩) n cap = .slice (some ad) m c → ad.block ∉ keys [x] := by
  intro ad m c e
  simp only [Value.slice.injEq, Option.some.injEq] at e
  obtain ⟨rfl, _⟩ := e
  cases x with
  | none => simp [keys]
  | some y =>
    obtain ⟨g', cs', T'⟩ := y
    simp only [keys, List.filterMap_cons, Option.map_some, List.filterMap_nil, List.mem_singleton]
    rintro rfl
    exact hij (nodup_other hS.nodup hi hj)

end Go.Proofs.Ytldmkafobbemjaa
namespace Go.Proofs.Ytldmkafobbemjaa
set_option linter.unusedSimpArgs false
set_option linter.unusedVariables false
open Go Go.RowKit
set_option maxRecDepth 100000

theorem pad_length (n : Nat) (l : List UInt8) (h : l.length ≤ n) : (pad n l).length = n := by simp [pad]; omega
theorem sum_len (s : PS) : s.sum.1.length = 32 := by
  unfold PS.sum
  apply pad_length
  rcases cut_len 32 s with h | h <;> rw [h] <;> simp

theorem pad_cells (n : Nat) (l : List UInt8) : (bs (zb n)).take 0 ++ bs l ++ (bs (zb n)).drop (0 + l.length) = bs (pad n l) := by simp [pad, bs, zb]

theorem sum_ok (b : Nat) (v : Value) (s : PS) (w : World) (hb : Holds w (inBlk b v s.bad)) (hv : InV w b v s.rest) :
    Calls Try.prog 59 #[.pointer (some ⟨b, 0, none⟩)] w (InPost w b v s (.agg (bs s.sum.1).toArray) s.sum.2) := by
  have hS := in_start hb
  go_enter Try.func59, Try.ntmps59
  go_wp2_with (first | ((with_reducible show wpList _ _ _ (Oper.mk (some 2) (Op.alloc _) _ _ _ _ :: _) _ _); refine wpl rfl ?_; refine (owp_allocAt hS 2 rfl rfl ?_); clear hS; intro gr _ hS; simp only [List.cons_append, List.nil_append] at hS) | ((with_reducible show wpList _ _ _ (Oper.mk (some 3) (Op.alloc _) _ _ _ _ :: _) _ _); refine wpl rfl ?_; refine (owp_allocAt hS 3 rfl rfl ?_); clear hS; intro gd _ hS; simp only [List.cons_append, List.nil_append] at hS))
  simp only [Act.put, List.setIfInBounds_toArray, List.set_cons_succ, List.set_cons_zero]
  have hl : (s.cut 32).1.length ≤ 32 := by rcases cut_len 32 s with h | h <;> rw [h] <;> simp
  have hc := cut_ok 32 (by omega) (by omega) b v s _ (hS.drew.get 0 rfl) (hv.st hS.drew (.inl rfl))
  have tok : True := trivial
  go_region_law (first | (have _t := tok; refine rstep rfl (owp_call rfl (by kernel_rfl) rfl hc ?_); clear tok _t; rintro e w' ⟨p, v', rfl, hc, hsub, hp⟩; replace hp := (hp.st hc (.inl rfl)).read; replace hS := hS.drew.call1 0 rfl hc; simp only [List.set_cons_zero, List.append_nil] at hS; clear hc; refine ⟨_, rfl, ?_⟩) | (refine rstep rfl (owp_copy hS 2 rfl rfl rfl rfl hp (bs_one _) hl (by simpa [bs_length, zb] using hl) rfl ?_); clear hS; intro w'' hS; simp only [List.set_cons_zero, List.set_cons_succ] at hS))
  have hcells : (bs (zb 32)).take 0 ++ bs (s.cut 32).1 ++ (bs (zb 32)).drop (0 + (s.cut 32).1.length) = bs s.sum.1 := pad_cells 32 _
  rw [hcells] at hS
  have hlen : (bs s.sum.1).length = 32 := by rw [bs_length, sum_len]
  have hz : (bs (zb 32)).length = 32 := by simp [bs_length, zb]
  have Hlen := Lib.hid hlen
  have Hz := Lib.hid hz
  clear hlen hcells hp hz
  go_wp2_with (first | ((with_reducible show wpList _ _ _ (Oper.mk _ (Op.load _ _) _ _ _ _ :: _) _ _); refine wpl rfl ?_; refine (owp_loadW hS 2 rfl rfl rfl (Hlen.out) ?_)) | ((with_reducible show wpList _ _ _ (Oper.mk _ (Op.store _ _ _) _ _ _ _ :: _) _ _); refine wpl rfl ?_; refine (owp_storeW hS 1 rfl rfl rfl rfl (Hlen.out) (Hz.out) (bs_one _) ?_); clear hS; intro _ hS; try simp only [List.cons_append, List.nil_append, List.append_nil, List.set_cons_zero, List.set_cons_succ] at hS))
  (try simp only [Exit.inBlock, Exit.then]); refine bodyPost_ret (res_cell rfl rfl hS 1 rfl (Hlen.out)) rfl ?_
  exact ⟨rfl, v', hS.pick [0] rfl (by decide), hsub⟩

set_option maxHeartbeats 400000 in
/-- A reader of bytes that are known. -/
theorem of_ok (u : Value) (l : List UInt8) (w : World) (hu : RowR w 1 u l.length (bs l)) (hl : l.length ≤ 1000000) :
    Calls Try.prog 14 #[u] w fun e w' => ∃ b v, e = .returned (.pointer (some ⟨b, 0, none⟩)) ∧ St w [] w' [inBlk b v 0] ∧ InV w' b v l := by
  have hS := St.nil w
  go_enter Try.func14, Try.ntmps14
  have hl63 : 0 + l.length ≤ maxLen := by unfold maxLen; omega
  have hlb : (0 + l.length) * 1 ≤ 140737488355328 := by omega
  go_wp2_with (first | ((with_reducible show wpList _ _ _ (Oper.mk _ (Op.buildSlice _ _ _) _ _ _ _ :: _) _ _); refine wpl rfl ?_; refine (owp_bslice0 hS rfl ?_); clear hS; intro g0 w1 hS; try simp only [List.cons_append, List.nil_append, List.append_nil, List.set_cons_zero, List.set_cons_succ] at hS) | ((with_reducible show wpList _ _ _ (Oper.mk _ (Op.call (Call.mk (Callee.builtin Builtin.append) _ _)) _ _ _ _ :: _) _ _); refine wpl rfl ?_; refine (owp_append hS 0 rfl rfl rfl (RowV.lit 5 1 _ 0 [] rfl (Nat.zero_le _)) rfl (hu.st0 hS) (bs_one _) hl63 hlb ?_); clear hS; intro v' x' w2 hv' hS hnil; obtain ⟨g1, cap, sp, rfl, rfl, hlx, hcap, hcm⟩ := hv'.whole (hnil (.inr (by simp [Act.eval]))); clear hnil hv'; try simp only [List.cons_append, List.nil_append, List.append_nil, List.set_cons_zero, List.set_cons_succ] at hS) | ((with_reducible show wpList _ _ _ (Oper.mk _ (Op.box _ _) _ _ _ _ :: _) _ _); refine wpl rfl ?_; refine (owp_box hS rfl (vs := [_, _]) rfl ?_); clear hS; intro b w3 hS; try simp only [List.cons_append, List.nil_append, List.append_nil, List.set_cons_zero, List.set_cons_succ] at hS))
  go_ret
  refine ⟨_, _, rfl, hS.pick [1] rfl (by decide), .inr ⟨g1, 0, cap, _, _, _, by simp, by simpa using hcap, hcm, ?_, hS.get 0 rfl _ _ _ rfl, by simp [bs_length]⟩⟩
  rintro rfl
  have := nodup_other hS.nodup (i := 0) (j := 1) rfl rfl
  omega

end Go.Proofs.Ytldmkafobbemjaa
namespace Go.Proofs.Ytldmkafobbemjaa
set_option linter.unusedSimpArgs false
set_option linter.unusedVariables false
open Go Go.RowKit
set_option maxRecDepth 100000
set_option maxHeartbeats 2000000

theorem build_cond (id : Nat) (w : World) : (Instr.build 86 #[(0, .int .u64 id)]).run Try.prog w = .ok (.agg (Cond.cells ⟨id, 0, 0, zb 32, 0⟩).toArray) w := by kernel_rfl
theorem build_op (kind : Int) (amount : Nat) (w : World) : (Instr.build 88 #[(0, .int .i64 kind), (1, .int .u64 amount)]).run Try.prog w = .ok (.agg (Oop.cells ⟨kind, amount, Cond.zero, 0⟩).toArray) w := by kernel_rfl
theorem build_op0 (w : World) : (Instr.build 88 #[]).run Try.prog w = .ok (.agg Oop.zero.cells.toArray) w := by kernel_rfl

theorem Cond.len (c : Cond) (h : c.hash.length = 32) : c.cells.length = 36 := by simp [Cond.cells, bs_length, h]
theorem Cond.one (c : Cond) : ∀ v, v ∈ c.cells → v.oneCell' = true := by
  intro v hv
  simp only [Cond.cells, List.mem_append, List.mem_cons, List.not_mem_nil, or_false] at hv
  rcases hv with ((rfl | rfl | rfl) | h) | rfl
  · rfl
  · rfl
  · rfl
  · exact bs_one _ v h
  · rfl

theorem Cond.lt (c : Cond) (h : c.hash.length = 32) {k : Nat} (hk : k < 36) : k < c.cells.length := by rw [Cond.len c h]; exact hk
theorem Cond.get_side (c : Cond) : c.cells[1]? = some (.int .i64 c.side) := rfl
theorem Cond.set_side (id am ex : Nat) (s x : Int) (h : List UInt8) : (Cond.cells ⟨id, s, am, h, ex⟩).set 1 (.int .i64 x) = Cond.cells ⟨id, x, am, h, ex⟩ := rfl
theorem Cond.set_amount (id am ex : Nat) (s : Int) (x : Nat) (h : List UInt8) : (Cond.cells ⟨id, s, am, h, ex⟩).set 2 (.int .u64 x) = Cond.cells ⟨id, s, x, h, ex⟩ := rfl
theorem Cond.hash_le (c : Cond) (h : c.hash.length = 32) : 3 + 32 ≤ c.cells.length := by rw [Cond.len c h]; omega
theorem Cond.set_hash (id am ex : Nat) (s : Int) (h h' : List UInt8) (hl : h.length = 32) :
    (Cond.cells ⟨id, s, am, h, ex⟩).take 3 ++ bs h' ++ (Cond.cells ⟨id, s, am, h, ex⟩).drop (3 + 32) = Cond.cells ⟨id, s, am, h', ex⟩ := by
  have e : (bs h).length = 32 := by rw [bs_length, hl]
  have e1 : (bs h).drop 32 = [] := List.drop_eq_nil_of_le (by omega)
  simp [Cond.cells, e, e1]
theorem Cond.set_expiry (id am ex : Nat) (s : Int) (h : List UInt8) (x : Nat) (hl : h.length = 32) : (Cond.cells ⟨id, s, am, h, ex⟩).set 35 (.int .u64 x) = Cond.cells ⟨id, s, am, h, x⟩ := by
  have e : (bs h).length = 32 := by rw [bs_length, hl]
  simp [Cond.cells, List.set_append, e]

def CondPost (w : World) (b : Nat) (v : Value) (s : PS) (e : Ending) (w' : World) : Prop :=
  InPost w b v s (.agg (takeCond s).1.cells.toArray) (takeCond s).2 e w'

theorem takeCond_ok (b : Nat) (v : Value) (s : PS) (w : World) (hb : Holds w (inBlk b v s.bad)) (hv : InV w b v s.rest) :
    Calls Try.prog 41 #[.pointer (some ⟨b, 0, none⟩)] w (CondPost w b v s) := by
  have hS := in_start hb
  have hsub := SubV.refl v s.rest
  go_enter Try.func41, Try.ntmps41
  go_wp2_with (first | ((with_reducible show wpList _ _ _ (Oper.mk (some 2) (Op.alloc _) _ _ _ _ :: _) _ _); refine wpl rfl ?_; refine (owp_allocAt hS 2 rfl rfl ?_); clear hS; intro gr _ hS; simp only [List.cons_append, List.nil_append] at hS))
  refine (eight_ok b _ _ _ (hS.get 0 rfl) ((hsub _ _ hv).st hS (.inl rfl))).mono ?_; rintro e w1 ⟨rfl, v2, hc, hsub2⟩; replace hS := hS.call1 0 rfl hc; try simp only [List.cons_append, List.nil_append, List.append_nil, List.set_cons_zero, List.set_cons_succ] at hS; replace hsub := hsub.trans hsub2; clear hc hsub2
  have hz := zb_length 32
  have Hz := Lib.hid hz
  clear hz
  go_wp2_with (first | ((with_reducible show wpList _ _ _ (Oper.mk _ (Op.build _ _) _ _ _ _ :: _) _ _); refine wpl rfl ?_; refine owp_build rfl [(0, .int .u64 _)] rfl (build_cond _ _) ?_) | ((with_reducible show wpList _ _ _ (Oper.mk (some 3) (Op.alloc _) _ _ _ _ :: _) _ _); refine wpl rfl ?_; refine (owp_allocAt hS 3 rfl rfl ?_); clear hS; intro gc _ hS; simp only [List.cons_append, List.nil_append] at hS) | ((with_reducible show wpList _ _ _ (Oper.mk _ (Op.store _ _ _) _ _ _ _ :: _) _ _); refine wpl rfl ?_; refine (owp_storeW hS 2 rfl rfl rfl rfl (Cond.len _ Hz.out) (Cond.len Cond.zero Hz.out) (Cond.one _) ?_); clear hS; intro _ hS; try simp only [List.cons_append, List.nil_append, List.append_nil, List.set_cons_zero, List.set_cons_succ] at hS))
  refine (one_ok b _ _ _ (hS.get 0 rfl) ((hsub _ _ hv).st hS (.inl rfl))).mono ?_; rintro e w1 ⟨rfl, v2, hc, hsub2⟩; replace hS := hS.call1 0 rfl hc; try simp only [List.cons_append, List.nil_append, List.append_nil, List.set_cons_zero, List.set_cons_succ] at hS; replace hsub := hsub.trans hsub2; clear hc hsub2
  have h1 := num1_lt (s.num 8).2
  go_wp2_with (first | ((with_reducible show wpList _ _ _ (Oper.mk _ (Op.store _ _ _) _ _ _ _ :: _) _ _); refine wpl rfl ?_; refine owp_store1 hS 2 rfl rfl rfl rfl rfl (Cond.lt _ Hz.out (by omega)) (Cond.set_side _ _ _ _ _ _) ?_; clear hS; intro _ hS; try simp only [List.cons_append, List.nil_append, List.append_nil, List.set_cons_zero, List.set_cons_succ] at hS))
  refine (eight_ok b _ _ _ (hS.get 0 rfl) ((hsub _ _ hv).st hS (.inl rfl))).mono ?_; rintro e w1 ⟨rfl, v2, hc, hsub2⟩; replace hS := hS.call1 0 rfl hc; try simp only [List.cons_append, List.nil_append, List.append_nil, List.set_cons_zero, List.set_cons_succ] at hS; replace hsub := hsub.trans hsub2; clear hc hsub2
  go_wp2_with (first | ((with_reducible show wpList _ _ _ (Oper.mk _ (Op.store _ _ _) _ _ _ _ :: _) _ _); refine wpl rfl ?_; refine owp_store1 hS 2 rfl rfl rfl rfl rfl (Cond.lt _ Hz.out (by omega)) (Cond.set_amount _ _ _ _ _ _) ?_; clear hS; intro _ hS; try simp only [List.cons_append, List.nil_append, List.append_nil, List.set_cons_zero, List.set_cons_succ] at hS))
  refine (sum_ok b _ _ _ (hS.get 0 rfl) ((hsub _ _ hv).st hS (.inl rfl))).mono ?_; rintro e w1 ⟨rfl, v2, hc, hsub2⟩; replace hS := hS.call1 0 rfl hc; try simp only [List.cons_append, List.nil_append, List.append_nil, List.set_cons_zero, List.set_cons_succ] at hS; replace hsub := hsub.trans hsub2; clear hc hsub2
  have Hl := Lib.hid (sum_len ((((s.num 8).2.num 1).2.num 8).2))
  go_wp2_with (first | ((with_reducible show wpList _ _ _ (Oper.mk _ (Op.store _ _ _) _ _ _ _ :: _) _ _); refine wpl rfl ?_; refine owp_store hS 2 rfl rfl rfl rfl (by rw [bs_length, Hl.out]) (Cond.hash_le _ Hz.out) (bs_one _) (Cond.set_hash _ _ _ _ _ _ Hz.out) ?_; clear hS; intro _ hS; try simp only [List.cons_append, List.nil_append, List.append_nil, List.set_cons_zero, List.set_cons_succ] at hS))
  refine (eight_ok b _ _ _ (hS.get 0 rfl) ((hsub _ _ hv).st hS (.inl rfl))).mono ?_; rintro e w1 ⟨rfl, v2, hc, hsub2⟩; replace hS := hS.call1 0 rfl hc; try simp only [List.cons_append, List.nil_append, List.append_nil, List.set_cons_zero, List.set_cons_succ] at hS; replace hsub := hsub.trans hsub2; clear hc hsub2
  have ht : takeCond s = takeCond s := rfl
  by_cases hside : 1 < ((s.num 8).2.num 1).1
  · have hfin : takeCond s = (⟨(s.num 8).1, ((s.num 8).2.num 1).1, (((s.num 8).2.num 1).2.num 8).1, (((s.num 8).2.num 1).2.num 8).2.sum.1, ((((s.num 8).2.num 1).2.num 8).2.sum.2.num 8).1⟩, (((((s.num 8).2.num 1).2.num 8).2.sum.2.num 8).2.fail 10)) := by
      simp [takeCond, hside]
    have Hfin := Lib.hid hfin
    clear hfin ht
    go_wp2_with (first | ((with_reducible show wpList _ _ _ (Oper.mk _ (Op.store _ _ _) _ _ _ _ :: _) _ _); refine wpl rfl ?_; refine owp_store1 hS 2 rfl rfl rfl rfl rfl (Cond.lt _ Hl.out (by omega)) (Cond.set_expiry _ _ _ _ _ _ Hl.out) ?_; clear hS; intro _ hS; try simp only [List.cons_append, List.nil_append, List.append_nil, List.set_cons_zero, List.set_cons_succ] at hS) | ((with_reducible show wpList _ _ _ (Oper.mk _ (Op.load _ _) _ _ _ _ :: _) _ _); refine wpl rfl ?_; refine owp_load1 hS 2 rfl rfl rfl (Cond.get_side _) ?_))
    refine (fail_ok b _ _ 10 _ (hS.get 0 rfl)).mono ?_; rintro e w1 ⟨rfl, v2, hc, hsub2⟩; replace hS := hS.call1 0 rfl hc; try simp only [List.cons_append, List.nil_append, List.append_nil, List.set_cons_zero, List.set_cons_succ] at hS; replace hsub := hsub.trans hsub2; clear hc hsub2
    go_wp2_with (first | ((with_reducible show wpList _ _ _ (Oper.mk _ (Op.load _ _) _ _ _ _ :: _) _ _); refine wpl rfl ?_; refine (owp_loadW hS 2 rfl rfl rfl (Cond.len _ Hl.out) ?_)) | ((with_reducible show wpList _ _ _ (Oper.mk _ (Op.store _ _ _) _ _ _ _ :: _) _ _); refine wpl rfl ?_; refine (owp_storeW hS 1 rfl rfl rfl rfl (Cond.len _ Hl.out) (Cond.len Cond.zero Hz.out) (Cond.one _) ?_); clear hS; intro _ hS; try simp only [List.cons_append, List.nil_append, List.append_nil, List.set_cons_zero, List.set_cons_succ] at hS))
    (try simp only [Exit.inBlock, Exit.then]); refine bodyPost_ret (res_cell rfl rfl hS 1 rfl (Cond.len _ Hl.out)) rfl ?_
    show InPost w b v s (.agg (takeCond s).1.cells.toArray) (takeCond s).2 _ _
    rw [Hfin.out]
    exact ⟨rfl, _, hS.pick [0] rfl (by decide), hsub⟩
  · have hfin : takeCond s = (⟨(s.num 8).1, ((s.num 8).2.num 1).1, (((s.num 8).2.num 1).2.num 8).1, (((s.num 8).2.num 1).2.num 8).2.sum.1, ((((s.num 8).2.num 1).2.num 8).2.sum.2.num 8).1⟩, (((((s.num 8).2.num 1).2.num 8).2.sum.2.num 8).2)) := by
      simp [takeCond, hside]
    have Hfin := Lib.hid hfin
    clear hfin ht
    go_wp2_with (first | ((with_reducible show wpList _ _ _ (Oper.mk _ (Op.store _ _ _) _ _ _ _ :: _) _ _); refine wpl rfl ?_; refine owp_store1 hS 2 rfl rfl rfl rfl rfl (Cond.lt _ Hl.out (by omega)) (Cond.set_expiry _ _ _ _ _ _ Hl.out) ?_; clear hS; intro _ hS; try simp only [List.cons_append, List.nil_append, List.append_nil, List.set_cons_zero, List.set_cons_succ] at hS) | ((with_reducible show wpList _ _ _ (Oper.mk _ (Op.load _ _) _ _ _ _ :: _) _ _); refine wpl rfl ?_; refine owp_load1 hS 2 rfl rfl rfl (Cond.get_side _) ?_) | ((with_reducible show wpList _ _ _ (Oper.mk _ (Op.load _ _) _ _ _ _ :: _) _ _); refine wpl rfl ?_; refine (owp_loadW hS 2 rfl rfl rfl (Cond.len _ Hl.out) ?_)) | ((with_reducible show wpList _ _ _ (Oper.mk _ (Op.store _ _ _) _ _ _ _ :: _) _ _); refine wpl rfl ?_; refine (owp_storeW hS 1 rfl rfl rfl rfl (Cond.len _ Hl.out) (Cond.len Cond.zero Hz.out) (Cond.one _) ?_); clear hS; intro _ hS; try simp only [List.cons_append, List.nil_append, List.append_nil, List.set_cons_zero, List.set_cons_succ] at hS))
    (try simp only [Exit.inBlock, Exit.then]); refine bodyPost_ret (res_cell rfl rfl hS 1 rfl (Cond.len _ Hl.out)) rfl ?_
    show InPost w b v s (.agg (takeCond s).1.cells.toArray) (takeCond s).2 _ _
    rw [Hfin.out]
    exact ⟨rfl, _, hS.pick [0] rfl (by decide), hsub⟩

end Go.Proofs.Ytldmkafobbemjaa
namespace Go.Proofs.Ytldmkafobbemjaa
set_option linter.unusedSimpArgs false
set_option linter.unusedVariables false
open Go Go.RowKit
set_option maxRecDepth 100000
set_option maxHeartbeats 2000000

theorem takeCond_hash (s : PS) : (takeCond s).1.hash.length = 32 := sum_len _
theorem Oop.len (c : Oop) (h : c.cond.hash.length = 32) : c.cells.length = 39 := by simp [Oop.cells, Cond.len _ h]
theorem Oop.one (c : Oop) : ∀ v, v ∈ c.cells → v.oneCell' = true := by
  intro v hv
  simp only [Oop.cells, List.mem_append, List.mem_cons, List.not_mem_nil, or_false] at hv
  rcases hv with ((rfl | rfl) | h) | rfl
  · rfl
  · rfl
  · exact Cond.one _ v h
  · rfl
theorem Oop.set_id (k : Int) (am id x : Nat) (c : Cond) (hl : c.hash.length = 32) : (Oop.cells ⟨k, am, c, id⟩).set 38 (.int .u64 x) = Oop.cells ⟨k, am, c, x⟩ := by
  simp [Oop.cells, List.set_append, Cond.len _ hl]
theorem Oop.set_cond (k : Int) (am id : Nat) (c c' : Cond) (hl : c.hash.length = 32) :
    (Oop.cells ⟨k, am, c, id⟩).take 2 ++ c'.cells ++ (Oop.cells ⟨k, am, c, id⟩).drop (2 + 36) = Oop.cells ⟨k, am, c', id⟩ := by
  have e := Cond.len _ hl
  have e1 : c.cells.drop 36 = [] := List.drop_eq_nil_of_le (by omega)
  simp [Oop.cells, e, e1]
theorem Oop.lt (c : Oop) (h : c.cond.hash.length = 32) {k : Nat} (hk : k ≤ 39) : k ≤ c.cells.length := by rw [Oop.len c h]; exact hk

def OpPost (w : World) (b : Nat) (v : Value) (s : PS) (e : Ending) (w' : World) : Prop :=
  InPost w b v s (.agg (takeOp s).1.cells.toArray) (takeOp s).2 e w'

theorem takeOp_ok (b : Nat) (v : Value) (s : PS) (w : World) (hb : Holds w (inBlk b v s.bad)) (hv : InV w b v s.rest) :
    Calls Try.prog 22 #[.pointer (some ⟨b, 0, none⟩)] w (OpPost w b v s) := by
  have hS := in_start hb
  have hsub := SubV.refl v s.rest
  have hz := zb_length 32
  have Hz := Lib.hid hz
  clear hz
  go_enter Try.func22, Try.ntmps22
  go_wp2_with (first | ((with_reducible show wpList _ _ _ (Oper.mk (some 2) (Op.alloc _) _ _ _ _ :: _) _ _); refine wpl rfl ?_; refine (owp_allocAt hS 2 rfl rfl ?_); clear hS; intro gr _ hS; simp only [List.cons_append, List.nil_append] at hS))
  refine (one_ok b _ _ _ (hS.get 0 rfl) ((hsub _ _ hv).st hS (.inl rfl))).mono ?_; rintro e w1 ⟨rfl, v2, hc, hsub2⟩; replace hS := hS.call1 0 rfl hc; try simp only [List.cons_append, List.nil_append, List.append_nil, List.set_cons_zero, List.set_cons_succ] at hS; replace hsub := hsub.trans hsub2; clear hc hsub2
  have h1 := num1_lt s
  go_wp2_with fail
  refine (eight_ok b _ _ _ (hS.get 0 rfl) ((hsub _ _ hv).st hS (.inl rfl))).mono ?_; rintro e w1 ⟨rfl, v2, hc, hsub2⟩; replace hS := hS.call1 0 rfl hc; try simp only [List.cons_append, List.nil_append, List.append_nil, List.set_cons_zero, List.set_cons_succ] at hS; replace hsub := hsub.trans hsub2; clear hc hsub2
  go_wp2_with (first | ((with_reducible show wpList _ _ _ (Oper.mk _ (Op.build _ _) _ _ _ _ :: _) _ _); refine wpl rfl ?_; refine owp_build rfl [(0, .int .i64 _), (1, .int .u64 _)] rfl (build_op _ _ _) ?_) | ((with_reducible show wpList _ _ _ (Oper.mk (some 3) (Op.alloc _) _ _ _ _ :: _) _ _); refine wpl rfl ?_; refine (owp_allocAt hS 3 rfl rfl ?_); clear hS; intro gc _ hS; simp only [List.cons_append, List.nil_append] at hS) | ((with_reducible show wpList _ _ _ (Oper.mk _ (Op.store _ _ _) _ _ _ _ :: _) _ _); refine wpl rfl ?_; refine (owp_storeW hS 2 rfl rfl rfl rfl (Oop.len _ Hz.out) (Oop.len Oop.zero Hz.out) (Oop.one _) ?_); clear hS; intro _ hS; try simp only [List.cons_append, List.nil_append, List.append_nil, List.set_cons_zero, List.set_cons_succ] at hS))
  refine (eight_ok b _ _ _ (hS.get 0 rfl) ((hsub _ _ hv).st hS (.inl rfl))).mono ?_; rintro e w1 ⟨rfl, v2, hc, hsub2⟩; replace hS := hS.call1 0 rfl hc; try simp only [List.cons_append, List.nil_append, List.append_nil, List.set_cons_zero, List.set_cons_succ] at hS; replace hsub := hsub.trans hsub2; clear hc hsub2
  go_wp2_with (first | ((with_reducible show wpList _ _ _ (Oper.mk _ (Op.store _ _ _) _ _ _ _ :: _) _ _); refine wpl rfl ?_; refine owp_store1 hS 2 rfl rfl rfl rfl rfl (Oop.lt _ Hz.out (by omega)) (Oop.set_id _ _ _ _ _ Hz.out) ?_; clear hS; intro _ hS; try simp only [List.cons_append, List.nil_append, List.append_nil, List.set_cons_zero, List.set_cons_succ] at hS))
  refine (takeCond_ok b _ _ _ (hS.get 0 rfl) ((hsub _ _ hv).st hS (.inl rfl))).mono ?_; rintro e w1 ⟨rfl, v2, hc, hsub2⟩; replace hS := hS.call1 0 rfl hc; try simp only [List.cons_append, List.nil_append, List.append_nil, List.set_cons_zero, List.set_cons_succ] at hS; replace hsub := hsub.trans hsub2; clear hc hsub2
  have Hh := Lib.hid (takeCond_hash (((s.num 1).2.num 8).2.num 8).2)
  go_wp2_with (first | ((with_reducible show wpList _ _ _ (Oper.mk _ (Op.store _ _ _) _ _ _ _ :: _) _ _); refine wpl rfl ?_; refine owp_store hS 2 rfl rfl rfl rfl (Cond.len _ Hh.out) (Oop.lt _ Hz.out (by omega)) (Cond.one _) (Oop.set_cond _ _ _ _ _ Hz.out) ?_; clear hS; intro _ hS; try simp only [List.cons_append, List.nil_append, List.append_nil, List.set_cons_zero, List.set_cons_succ] at hS))
  refine (bad_ok b _ _ _ (hS.get 0 rfl)).mono ?_
  rintro e w1 ⟨rfl, rfl⟩
  have ht : takeOp s = (if (takeCond (((s.num 1).2.num 8).2.num 8).2).2.bad ≠ 0 then Oop.zero else ⟨(s.num 1).1, ((s.num 1).2.num 8).1, (takeCond (((s.num 1).2.num 8).2.num 8).2).1, (((s.num 1).2.num 8).2.num 8).1⟩, (takeCond (((s.num 1).2.num 8).2.num 8).2).2) := rfl
  have Ht := Lib.hid ht
  clear ht
  have hpost : ∀ w', InPost w b v s (.agg (takeOp s).1.cells.toArray) (takeOp s).2 (.returned (.agg (takeOp s).1.cells.toArray)) w' → OpPost w b v s (.returned (.agg (takeOp s).1.cells.toArray)) w' := fun _ h => h
  clear hpost
  by_cases hbad : (takeCond (((s.num 1).2.num 8).2.num 8).2).2.bad = 0
  · have hb1 : ((takeCond (((s.num 1).2.num 8).2.num 8).2).2.bad != 0) = false := by simpa using hbad
    have Hbad := Lib.hid hbad
    clear hbad
    go_wp2_with (first | ((with_reducible show wpList _ _ _ (Oper.mk _ (Op.load _ _) _ _ _ _ :: _) _ _); refine wpl rfl ?_; refine (owp_loadW hS 2 rfl rfl rfl (Oop.len _ Hh.out) ?_)) | ((with_reducible show wpList _ _ _ (Oper.mk _ (Op.store _ _ _) _ _ _ _ :: _) _ _); refine wpl rfl ?_; refine (owp_storeW hS 1 rfl rfl rfl rfl (Oop.len _ Hh.out) (Oop.len Oop.zero Hz.out) (Oop.one _) ?_); clear hS; intro _ hS; try simp only [List.cons_append, List.nil_append, List.append_nil, List.set_cons_zero, List.set_cons_succ] at hS))
    (try simp only [Exit.inBlock, Exit.then]); refine bodyPost_ret (res_cell rfl rfl hS 1 rfl (Oop.len _ Hh.out)) rfl ?_
    show InPost w b v s (.agg (takeOp s).1.cells.toArray) (takeOp s).2 _ _
    rw [Ht.out, if_neg (by simpa using Hbad.out)]
    exact ⟨rfl, _, hS.pick [0] rfl (by decide), hsub⟩
  · have hb1 : ((takeCond (((s.num 1).2.num 8).2.num 8).2).2.bad != 0) = true := by simpa using hbad
    have Hbad := Lib.hid hbad
    clear hbad
    go_wp2_with (first | ((with_reducible show wpList _ _ _ (Oper.mk _ (Op.build _ _) _ _ _ _ :: _) _ _); refine wpl rfl ?_; refine owp_build rfl [] rfl (build_op0 _) ?_) | ((with_reducible show wpList _ _ _ (Oper.mk _ (Op.store _ _ _) _ _ _ _ :: _) _ _); refine wpl rfl ?_; refine (owp_storeW hS 1 rfl rfl rfl rfl (Oop.len Oop.zero Hz.out) (Oop.len Oop.zero Hz.out) (Oop.one _) ?_); clear hS; intro _ hS; try simp only [List.cons_append, List.nil_append, List.append_nil, List.set_cons_zero, List.set_cons_succ] at hS))
    (try simp only [Exit.inBlock, Exit.then]); refine bodyPost_ret (res_cell rfl rfl hS 1 rfl (Oop.len Oop.zero Hz.out)) rfl ?_
    show InPost w b v s (.agg (takeOp s).1.cells.toArray) (takeOp s).2 _ _
    rw [Ht.out, if_pos (by simpa using Hbad.out)]
    exact ⟨rfl, _, hS.pick [0] rfl (by decide), hsub⟩

end Go.Proofs.Ytldmkafobbemjaa
namespace Go.Proofs.Ytldmkafobbemjaa
set_option linter.unusedSimpArgs false
set_option linter.unusedVariables false
open Go Go.RowKit
set_option maxRecDepth 100000
set_option maxHeartbeats 2000000

theorem Hop.one (c : Hop) : ∀ v, v ∈ c.cells → v.oneCell' = true := by
  intro v hv
  simp only [Hop.cells, List.mem_cons, List.not_mem_nil, or_false] at hv
  rcases hv with rfl | rfl | rfl <;> rfl
theorem hopCells_snoc (l : List Hop) (h : Hop) : hopCells (l ++ [h]) = hopCells l ++ h.cells := by simp [hopCells]
theorem many_le (n : Nat) (s : PS) : (s.many n).1 ≤ n := by
  unfold PS.many
  split
  · omega
  · rename_i h; omega
theorem times_len {α : Type} (f : PS → α × PS) (n : Nat) (s : PS) : (times f n s).1.length = n := by
  induction n with
  | zero => rw [times_zero]; rfl
  | succ n ih => simp [times_succ, ih]

theorem Hop.lt (h : Hop) : 2 < h.cells.length := by simp [Hop.cells]
theorem Hop.set_id (c a i x : Nat) : (Hop.cells ⟨c, a, i⟩).set 2 (.int .u64 x) = Hop.cells ⟨c, a, x⟩ := rfl

def TrailPost (w : World) (b : Nat) (v : Value) (s : PS) (T : TypeId) (e : Ending) (w' : World) : Prop :=
  ∃ r v' x, e = .returned r ∧ St w [b] w' [inBlk b v' (takeTrail s).2.bad, x] ∧ SubV v s.rest v' (takeTrail s).2.rest ∧ RowV T 3 r (takeTrail s).1.length (hopCells (takeTrail s).1) x

end Go.Proofs.Ytldmkafobbemjaa
