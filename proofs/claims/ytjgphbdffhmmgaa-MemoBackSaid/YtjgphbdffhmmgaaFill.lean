/-
  Struct and slice literals: what their parts make.
-/
import Derived.Test.YtjgphbdffhmmgaaOps2
namespace Go.Proofs.Ytjgphbdffhmmgaa
set_option linter.unusedSimpArgs false
set_option linter.unusedVariables false
open Go Go.RowKit

theorem fill_foldl (off : Nat) : ∀ (vs : List Value) (k : Nat) (cs : List Value), off + k + vs.length ≤ cs.length →
    ((vs.zipIdx k).foldl (fun (cs : Array Value) (x : Value × Nat) => cs.setIfInBounds (off + x.2) x.1) cs.toArray) = (cs.take (off + k) ++ vs ++ cs.drop (off + k + vs.length)).toArray
  | [], k, cs, _ => by simp
  | v :: vs, k, cs, h => by
    simp only [List.length_cons] at h
    simp only [List.zipIdx_cons, List.foldl_cons]
    have e : cs.toArray.setIfInBounds (off + k) v = (cs.set (off + k) v).toArray := by simp
    rw [e, fill_foldl off vs (k + 1) (cs.set (off + k) v) (by simp; omega)]
    congr 1
    have h1 : (cs.set (off + k) v).take (off + (k + 1)) = cs.take (off + k) ++ [v] := by
      rw [show off + (k + 1) = (off + k) + 1 by omega, List.take_succ_eq_append_getElem (by simp; omega)]
      simp [List.take_set_of_le]
    have h2 : (cs.set (off + k) v).drop (off + (k + 1) + vs.length) = cs.drop (off + k + (v :: vs).length) := by
      rw [List.drop_set_of_lt (by omega)]
      congr 1
      simp; omega
    rw [h1, h2]
    simp

theorem fill_part (place : Nat → Option (Nat × Nat)) (cs : List Value) (i : Nat) (v : Value) (rest : List (Nat × Value)) (off size : Nat) (hp : place i = some (off, size))
    (vs : List Value) (hv : v.cells = vs.toArray) (hs : vs.length = size) (hle : off + size ≤ cs.length) :
    Instr.fill place cs.toArray ((i, v) :: rest) = Instr.fill place (cs.take off ++ vs ++ cs.drop (off + size)).toArray rest := by
  have h := fill_foldl off vs 0 cs (by omega)
  simp only [Nat.add_zero] at h
  subst hs
  have h2 : ((vs.toArray.zipIdx.foldl (fun (cs : Array Value) (x : Value × Nat) => cs.setIfInBounds (off + x.2) x.1) cs.toArray)) = (cs.take off ++ vs ++ cs.drop (off + vs.length)).toArray := by
    rw [← h]
    simp
  rw [← h2]
  conv => lhs; unfold Instr.fill
  rw [hp]
  simp only [hv, List.size_toArray]
  rw [if_neg (by simp; omega)]

theorem madeCells_eq (zs : List Value) (n : Nat) (h : zs.length = n) : (Array.range n).map (zs.toArray[· % zs.toArray.size]!) = zs.toArray := by
  apply Array.ext
  · simp [h]
  · intro i h1 h2
    simp at h1 h2
    simp [Nat.mod_eq_of_lt h2, h2]

section
variable {P : Program} {ops : Array Oper} {Q : Exit → Act → World → Prop} {K : Act → World → Prop} {a : Act} {w : World} {rest : List Oper} {o : Oper}
variable {w0 : World} {A : List Nat} {L : List Ent} (hS : St w0 A w L)
include hS

theorem owp_bslice0 {T e : TypeId} (ho : o.op = .buildSlice T 0 #[]) {size bytes : Nat} [hT : SliceOK P T e size bytes]
    (hk : ∀ g w1, St w0 A w1 (L ++ [some (g, [], e)]) → K (a.put o.dst (.slice (some ⟨g, 0, none⟩) 0 0)) w1) : o.wp P a w K Q := by
  refine owp_bslice hS (cs := []) (zs := []) ho (hT := hT) (by omega) (.inl (by omega)) ?_ hk
  simp [Instr.fill]

/-- A slice literal of one element. -/
theorem owp_bslice1 {T e : TypeId} {x : Operand} (ho : o.op = .buildSlice T 1 #[(0, x)]) {size bytes : Nat} [hT : SliceOK P T e size bytes] {zs : List Value} [hz : ZeroOK P e zs]
    {vs : List Value} (hx : (a.eval x).cells = vs.toArray) (hl : vs.length = size) (hsz : size ≤ 16777216)
    (hk : ∀ g w1, St w0 A w1 (L ++ [some (g, vs, e)]) → K (a.put o.dst (.slice (some ⟨g, 0, none⟩) 1 1)) w1) : o.wp P a w K Q := by
  have hzl : zs.length = size := by
    obtain ⟨_, i, z, hi, hzz, hsize, _, hc, _⟩ := hT
    obtain ⟨hz⟩ := hz
    simp [hi, hzz] at hz
    rw [hz] at hc
    simpa using hc
  refine owp_bslice hS (cs := vs) (zs := zs) ho (hT := hT) (by omega) (.inr hz) ?_ hk
  rw [Nat.one_mul, madeCells_eq zs size hzl]
  have := fill_part (fun i => some (i * size, size)) zs 0 (a.eval x) [] 0 size (by simp) vs hx hl (by omega)
  simp only [List.map_toArray, List.map_cons, List.map_nil]
  rw [this]
  simp [Instr.fill, hzl]

/-- A slice literal of two one-cell elements. -/
theorem owp_bslice2 {T e : TypeId} {x y : Operand} (ho : o.op = .buildSlice T 2 #[(0, x), (1, y)]) {bytes : Nat} [hT : SliceOK P T e 1 bytes] {z : Value} [hz : ZeroOK P e [z]]
    {u v : Value} (hx : a.eval x = u) (hy : a.eval y = v) (hu : u.oneCell' = true) (hv : v.oneCell' = true)
    (hk : ∀ g w1, St w0 A w1 (L ++ [some (g, [u, v], e)]) → K (a.put o.dst (.slice (some ⟨g, 0, none⟩) 2 2)) w1) : o.wp P a w K Q := by
  refine owp_bslice hS (cs := [u, v]) (zs := [z]) ho (hT := hT) (by omega) (.inr hz) ?_ hk
  have e1 : (Array.range (2 * 1)).map ([z].toArray[· % [z].toArray.size]!) = [z, z].toArray := by
    apply Array.ext
    · simp
    · intro i h1 h2
      simp at h1 h2
      rcases i with _ | _ | i
      · simp
      · simp
      · omega
  rw [e1]
  have hcu : u.cells = [u].toArray := by cases u <;> first | rfl | cases hu
  have hcv : v.cells = [v].toArray := by cases v <;> first | rfl | cases hv
  have h1 := fill_part (fun i => some (i * 1, 1)) [z, z] 0 u [(1, v)] 0 1 (by simp) [u] hcu rfl (by simp)
  have h2 := fill_part (fun i => some (i * 1, 1)) [u, z] 1 v [] 1 1 (by simp) [v] hcv rfl (by simp)
  simp only [List.map_toArray, List.map_cons, List.map_nil, hx, hy]
  rw [h1]
  show Instr.fill (fun i => some (i * 1, 1)) [u, z].toArray [(1, v)] = _
  rw [h2]
  simp [Instr.fill]

end

/-- A struct literal. -/
theorem owp_build {P : Program} {Q : Exit → Act → World → Prop} {K : Act → World → Prop} {a : Act} {w : World} {o : Oper} {T : TypeId} {parts : Array (Nat × Operand)} (ho : o.op = .build T parts)
    (ps : List (Nat × Value)) (hps : parts.toList.map (fun x => (x.1, a.eval x.2)) = ps) {cs : List Value} (hb : (Instr.build T ps.toArray).run P w = .ok (.agg cs.toArray) w) (hk : K (a.put o.dst (.agg cs.toArray)) w) : o.wp P a w K Q := by
  refine owp_val (v := .agg cs.toArray) (w1 := w) ?_ hk
  subst hps
  have e : (parts.map fun x => (x.1, a.eval x.2)) = (parts.toList.map fun x => (x.1, a.eval x.2)).toArray := by apply Array.ext'; simp
  unfold execOp
  simp only [ho, Sem.run_bind, e, hb, Result.andThen_ok, Sem.run_pure]

/-- One cell in a box. -/
theorem owp_box {P : Program} {Q : Exit → Act → World → Prop} {K : Act → World → Prop} {a : Act} {w : World} {o : Oper} {w0 : World} {A : List Nat} {L : List Ent} (hS : St w0 A w L)
    {T : TypeId} {x : Operand} (ho : o.op = .box T x) {vs : List Value} (hx : (a.eval x).cells = vs.toArray)
    (hk : ∀ g w1, St w0 A w1 (L ++ [some (g, vs, T)]) → K (a.put o.dst (.pointer (some ⟨g, 0, none⟩))) w1) : o.wp P a w K Q := by
  refine owp_val (w1 := w.alloc (.cells vs.toArray T)) (v := .pointer (some ⟨w.heap.size, 0, none⟩)) ?_ (hk _ _ (hS.alloc vs T))
  unfold execOp
  simp [ho, Instr.box, newVar, newRow, newObj, Sem.run, hx]

theorem RowV.isSl {e : TypeId} {size n : Nat} {v : Value} {xs : List Value} {x : Ent} (h : RowV e size v n xs x) : ∃ a c, v = .slice a n c := by
  rcases h with ⟨rfl, rfl, _⟩ | ⟨g, cap, sp, rfl, _⟩
  · exact ⟨_, _, rfl⟩
  · exact ⟨_, _, rfl⟩

theorem RowV.whole {e : TypeId} {size n : Nat} {v : Value} {xs : List Value} {x : Ent} (h : RowV e size v n xs x) (hn : v ≠ .slice none 0 0) :
    ∃ g cap sp, v = .slice (some ⟨g, 0, none⟩) n cap ∧ x = some (g, xs ++ sp, e) ∧ xs.length = n * size ∧ n ≤ cap ∧ cap ≤ maxLen := by
  rcases h with ⟨rfl, _⟩ | ⟨g, cap, sp, rfl, rfl, h1, _, h2, h3⟩
  · exact (hn rfl).elim
  · exact ⟨g, cap, sp, rfl, rfl, h1, h2, h3⟩

theorem RowR.isSl {w : World} {size n : Nat} {v : Value} {xs : List Value} (h : RowR w size v n xs) : ∃ a c, v = .slice a n c := by
  rcases h.2 with ⟨rfl, rfl⟩ | ⟨ad, cap, rfl, _⟩
  · exact ⟨_, _, rfl⟩
  · exact ⟨_, _, rfl⟩

theorem CellsAt.st {w0 w : World} {ad : Addr} {vs : List Value} (h : CellsAt w0 ad vs) {A : List Nat} {L : List Ent} (hS : St w0 A w L) (hA : ad.block ∉ A) : CellsAt w ad vs := by
  intro j v hv
  have hc := h j v hv
  have hb : (ad.add j).block = ad.block := by unfold Addr.add; split <;> rfl
  have hlt := World.block_lt_of_cell? w0 _ hc
  rw [World.cell?_of_block (w := w0) (w' := w) (a := ad.add j) (hS.keep _ hlt (by rw [hb]; exact hA))]
  exact hc

theorem RowR.st {w0 w : World} {size n : Nat} {v : Value} {xs : List Value} (h : RowR w0 size v n xs) {A : List Nat} {L : List Ent} (hS : St w0 A w L)
    (hA : ∀ ad m c, v = .slice (some ad) m c → ad.block ∉ A) : RowR w size v n xs := by
  refine ⟨h.1, ?_⟩
  rcases h.2 with h | ⟨ad, cap, rfl, hc, hs, hcells⟩
  · exact .inl h
  · exact .inr ⟨ad, cap, rfl, hc, hs, hcells.st hS (hA _ _ _ rfl)⟩

theorem RowR.st0 {w0 w : World} {size n : Nat} {v : Value} {xs : List Value} (h : RowR w0 size v n xs) {L : List Ent} (hS : St w0 [] w L) : RowR w size v n xs :=
  h.st hS (fun _ _ _ _ => by simp)

end Go.Proofs.Ytjgphbdffhmmgaa
