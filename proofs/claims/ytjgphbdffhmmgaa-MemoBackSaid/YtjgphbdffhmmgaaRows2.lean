/-
  Laws for slices: append, copy, slice literals; struct literals; results that lie in cells.
-/
import Derived.Test.YtjgphbdffhmmgaaOps
namespace Go.Proofs.Ytjgphbdffhmmgaa
set_option linter.unusedSimpArgs false
set_option linter.unusedVariables false
open Go Go.RowKit

/-- A slice of the call's own, as it is built: no block, or a whole one from its head. -/
def RowV (e : TypeId) (size : Nat) (v : Value) (n : Nat) (xs : List Value) (x : Ent) : Prop :=
  (v = .slice none 0 0 ∧ n = 0 ∧ xs = [] ∧ x = none) ∨
  ∃ g cap sp, v = .slice (some ⟨g, 0, none⟩) n cap ∧ x = some (g, xs ++ sp, e) ∧ xs.length = n * size ∧ (xs ++ sp).length = cap * size ∧ n ≤ cap ∧ cap ≤ maxLen

theorem RowV.nil (e : TypeId) (size : Nat) : RowV e size (.slice none 0 0) 0 [] none := .inl ⟨rfl, rfl, rfl, rfl⟩

theorem RowV.lit (e : TypeId) (size g n : Nat) (xs : List Value) (hl : xs.length = n * size) (hn : n ≤ maxLen) : RowV e size (.slice (some ⟨g, 0, none⟩) n n) n xs (some (g, xs, e)) :=
  .inr ⟨g, n, [], rfl, by simp, hl, by simpa using hl, Nat.le_refl _, hn⟩

theorem RowV.len {e : TypeId} {size n : Nat} {v : Value} {xs : List Value} {x : Ent} (h : RowV e size v n xs x) : xs.length = n * size := by
  rcases h with ⟨_, rfl, rfl, _⟩ | ⟨_, _, _, _, _, h, _⟩
  · simp
  · exact h

/-- A slice that is only read: nil, or cells of a block that are known in w. -/
def RowR (w : World) (size : Nat) (v : Value) (n : Nat) (xs : List Value) : Prop :=
  xs.length = n * size ∧ ((v = .slice none 0 0 ∧ n = 0) ∨ ∃ ad cap, v = .slice (some ad) n cap ∧ n ≤ cap ∧ (n = 0 ∨ ad.spot = none) ∧ CellsAt w ad xs)

theorem RowV.read {e : TypeId} {size n : Nat} {v : Value} {xs : List Value} {x : Ent} (h : RowV e size v n xs x) {w : World} (hh : Holds w x) : RowR w size v n xs := by
  refine ⟨h.len, ?_⟩
  rcases h with ⟨rfl, rfl, rfl, _⟩ | ⟨g, cap, sp, rfl, rfl, hl, _, hc, _⟩
  · exact .inl ⟨rfl, rfl⟩
  · refine .inr ⟨_, cap, rfl, hc, .inr rfl, ?_⟩
    have := CellsAt.row (off := 0) (n := xs.length) (hh _ _ _ rfl)
    simpa using this

section
variable {P : Program} {ops : Array Oper} {Q : Exit → Act → World → Prop} {K : Act → World → Prop} {a : Act} {w : World} {rest : List Oper} {o : Oper}
variable {w0 : World} {A : List Nat} {L : List Ent} (hS : St w0 A w L)
include hS

theorem run_append_st {T e : TypeId} {size bytes : Nat} [hT : SliceOK P T e size bytes] (ty : TypeId) (i : Nat) {x : Ent} (hi : L[i]? = some x) {v : Value} {n : Nat} {xs : List Value} (hv : RowV e size v n xs x)
    {u : Value} {m : Nat} {news : List Value} (hu : RowR w size u m news) (h1 : ∀ v, v ∈ news → v.oneCell' = true)
    (h63 : n + m ≤ maxLen) (hby : (n + m) * bytes ≤ 140737488355328) :
    ∃ v' x' w1, (Builtin.append_ #[T, T] ty #[v, u]).run P w = .ok v' w1 ∧ RowV e size v' (n + m) (xs ++ news) x' ∧ St w0 A w1 (L.set i x') ∧ (m ≠ 0 ∨ v ≠ .slice none 0 0 → v' ≠ .slice none 0 0) ∧ (m = 0 → v' = v ∧ x' = x ∧ w1 = w) := by
  obtain ⟨hund, ti, z, hinfo, hzero, rfl, rfl, hzs, hpos⟩ := hT
  have hset : L.set i x = L := by
    apply List.ext_getElem?
    intro j
    by_cases hij : i = j
    · subst hij
      rw [List.getElem?_set]
      have : i < L.length := by
        rcases Nat.lt_or_ge i L.length with h | h
        · exact h
        · simp [List.getElem?_eq_none h] at hi
      rw [hi]; simp [this]
    · rw [List.getElem?_set_ne hij]
  have hget : x ∈ L := mem_getElem? hi
  have hnl : news.length = m * ti.size := hu.1
  by_cases hm : m = 0
  · subst hm
    have hnn : news = [] := List.eq_nil_of_length_eq_zero (by simpa using hnl)
    subst hnn
    refine ⟨v, x, w, ?_, by simpa using hv, by rw [hset]; exact hS, by simp, fun _ => ⟨rfl, rfl, rfl⟩⟩
    rcases hv with ⟨rfl, rfl, rfl, rfl⟩ | ⟨g, cap, sp, rfl, rfl, hl, hl2, hc, hcm⟩
    · rcases hu.2 with ⟨rfl, _⟩ | ⟨ad, cap, rfl, _, _, hc⟩
      · simp [Builtin.append_, run_underlying hund, sizeOf, typeInfo, hinfo, Builtin.lenOf, Builtin.firstCells]
      · simp [Builtin.append_, run_underlying hund, sizeOf, typeInfo, hinfo, Builtin.lenOf, Builtin.firstCells, loadCells, loadCellsFrom]
    · rcases hu.2 with ⟨rfl, _⟩ | ⟨ad, cap', rfl, _, _, hc'⟩
      · simp [Builtin.append_, run_underlying hund, sizeOf, typeInfo, hinfo, Builtin.lenOf, Builtin.firstCells, hc, storeCells]
      · simp [Builtin.append_, run_underlying hund, sizeOf, typeInfo, hinfo, Builtin.lenOf, Builtin.firstCells, hc, storeCells, loadCells, loadCellsFrom]
  · have hne : ∃ ad cap, u = .slice (some ad) m cap ∧ CellsAt w ad news := by
      rcases hu.2 with ⟨_, h⟩ | ⟨ad, cap, rfl, _, _, hc⟩
      · exact (hm h).elim
      · exact ⟨ad, cap, rfl, hc⟩
    obtain ⟨ad, ucap, rfl, hcells⟩ := hne
    have hsmall : ((n + m : Nat) : Int) ≤ 9223372036854775807 := by simp only [maxLen] at h63; omega
    rcases hv with ⟨rfl, rfl, rfl, rfl⟩ | ⟨g, cap, sp, rfl, rfl, hl, hl2, hc, hcm⟩
    · have hr := run_append_nil (P := P) w T ty e ti z hund hinfo hzero ad m ucap news hnl hcells (by omega) (by simpa using hsmall) (by simp only [Nat.zero_add] at hby; omega)
      have hcap := grownCap_ge w m 0 e
      have hcapm := grownCap_le_maxLen w m 0 e (by simpa using h63)
      have harr : news.toArray ++ Builtin.zeroCells z.cells (grownCap w m 0 e - m) = (news ++ (Builtin.zeroCells z.cells (grownCap w m 0 e - m)).toList).toArray := by apply Array.ext'; simp
      rw [harr] at hr
      refine ⟨_, some (w.heap.size, news ++ (Builtin.zeroCells z.cells (grownCap w m 0 e - m)).toList, e), _, hr, .inr ⟨w.heap.size, _, (Builtin.zeroCells z.cells (grownCap w m 0 e - m)).toList, by simp, by simp, by simpa using hnl, ?_, by simpa using hcap, hcapm⟩, ?_, by simp, fun h => (hm h).elim⟩
      · simp only [List.nil_append, List.length_append, Array.length_toList, size_zeroCells, hzs, hnl, ← Nat.add_mul]
        congr 1
        omega
      · have hc1 := hS.call1 i (N := []) hi (x' := some (w.heap.size, news ++ (Builtin.zeroCells z.cells (grownCap w m 0 e - m)).toList, e)) ((St.nil w).drew.alloc (news ++ (Builtin.zeroCells z.cells (grownCap w m 0 e - m)).toList) e)
        rw [List.append_nil] at hc1
        exact hc1
    · by_cases hroom : n + m ≤ cap
      · have hfit : n * ti.size + news.length ≤ (xs ++ sp).toArray.size := by
          rw [List.size_toArray, hl2, hnl, ← Nat.add_mul]
          exact Nat.mul_le_mul_right _ hroom
        have hr := run_append_room (P := P) w T ty e ti hund hinfo g n cap (xs ++ sp).toArray (hS.has _ hget _ _ _ rfl) ad m ucap news hnl hcells h1 hroom hfit
        have hlist : (xs ++ sp).toArray.toList.take (n * ti.size) ++ news ++ (xs ++ sp).toArray.toList.drop (n * ti.size + news.length) = (xs ++ news) ++ sp.drop news.length := by
          simp only [List.toList_toArray]
          rw [← hl, List.take_left', List.drop_append]
          · have : (xs.drop (xs.length + news.length)) = [] := List.drop_eq_nil_of_le (by omega)
            rw [this]
            simp
          · rfl
        rw [hlist] at hr
        have hst := hS.setRow hi ((xs ++ news) ++ sp.drop news.length)
        refine ⟨_, some (g, (xs ++ news) ++ sp.drop news.length, e), _, hr, .inr ⟨g, cap, sp.drop news.length, rfl, rfl, by rw [List.length_append, hl, hnl, Nat.add_mul], ?_, hroom, hcm⟩, hst, by simp, fun h => (hm h).elim⟩
        have hsp : sp.length = (cap - n) * ti.size := by
          rw [List.length_append, hl] at hl2
          rw [Nat.sub_mul]; omega
        simp only [List.length_append, List.length_drop, hsp, hl, hnl]
        have e1 : cap = n + m + (cap - (n + m)) := by omega
        have e2 : cap - n = m + (cap - (n + m)) := by omega
        rw [e2, Nat.add_mul m]
        conv => rhs; rw [e1, Nat.add_mul, Nat.add_mul]
        omega
      · have holds : CellsAt w ⟨g, 0, none⟩ xs := by
          have := CellsAt.row (off := 0) (n := xs.length) (hS.has _ hget _ _ _ rfl)
          simpa using this
        have hr := run_append_grow (P := P) w T ty e ti z hund hinfo hzero ⟨g, 0, none⟩ n cap xs hl holds ad m ucap news hnl hcells (by omega) hsmall (growslice_fits (by omega) hby)
        have hcap := grownCap_ge w (n + m) cap e
        have hcapm := grownCap_le_maxLen w (n + m) cap e h63
        have harr : xs.toArray ++ news.toArray ++ Builtin.zeroCells z.cells (grownCap w (n + m) cap e - (n + m)) = ((xs ++ news) ++ (Builtin.zeroCells z.cells (grownCap w (n + m) cap e - (n + m))).toList).toArray := by apply Array.ext'; simp
        rw [harr] at hr
        refine ⟨_, some (w.heap.size, (xs ++ news) ++ (Builtin.zeroCells z.cells (grownCap w (n + m) cap e - (n + m))).toList, e), _, hr, .inr ⟨w.heap.size, _, (Builtin.zeroCells z.cells (grownCap w (n + m) cap e - (n + m))).toList, rfl, rfl, by rw [List.length_append, hl, hnl, Nat.add_mul], ?_, hcap, hcapm⟩, ?_, by simp, fun h => (hm h).elim⟩
        · simp only [List.length_append, Array.length_toList, size_zeroCells, hzs, hl, hnl, ← Nat.add_mul]
          congr 1
          omega
        · have h0 : St w (keys [some (g, xs ++ sp, e)]) w [] := ⟨rfl, rfl, rfl, Nat.le_refl _, fun _ _ _ => rfl, fun _ h => (by simp at h), List.nodup_nil, fun _ h => (by simp [keys] at h)⟩
          have hc1 := hS.call1 i (N := []) hi (x' := some (w.heap.size, (xs ++ news) ++ (Builtin.zeroCells z.cells (grownCap w (n + m) cap e - (n + m))).toList, e)) (h0.drew.alloc ((xs ++ news) ++ (Builtin.zeroCells z.cells (grownCap w (n + m) cap e - (n + m))).toList) e)
          rw [List.append_nil] at hc1
          exact hc1

theorem owp_append (i : Nat) {T e : TypeId} {s y : Operand} (ho : o.op = .call { callee := .builtin .append, args := #[s, y], argTypes := #[T, T] }) {size bytes : Nat} [hT : SliceOK P T e size bytes]
    {x : Ent} (hi : L[i]? = some x) {v : Value} {n : Nat} {xs : List Value} (hs : a.eval s = v) (hv : RowV e size v n xs x)
    {u : Value} {m : Nat} {news : List Value} (hy : a.eval y = u) (hu : RowR w size u m news) (h1 : ∀ v, v ∈ news → v.oneCell' = true)
    (h63 : n + m ≤ maxLen) (hby : (n + m) * bytes ≤ 140737488355328)
    (hk : ∀ v' x' w1, RowV e size v' (n + m) (xs ++ news) x' → St w0 A w1 (L.set i x') → (m ≠ 0 ∨ v ≠ .slice none 0 0 → v' ≠ .slice none 0 0) → K (a.put o.dst v') w1) : o.wp P a w K Q := by
  obtain ⟨v', x', w1, hr, hv', hst, hnil, _⟩ := run_append_st hS (hT := hT) o.type i hi hv hu h1 h63 hby
  refine owp_val (v := v') (w1 := w1) ?_ (hk _ _ _ hv' hst hnil)
  unfold execOp
  simp only [ho, resolve, invoke, builtin, Sem.run_bind, Sem.run_pure, Result.andThen_ok, List.map_toArray, List.map_cons, List.map_nil, hs, hy, hr]

/-- copy of as many cells as the destination takes. -/
theorem owp_copy (i : Nat) {dT sT e : TypeId} {d y : Operand} (ho : o.op = .call { callee := .builtin .copy, args := #[d, y], argTypes := #[dT, sT] }) {bytes : Nat} [hT : SliceOK P dT e 1 bytes]
    {g off dl dc : Nat} (hd : a.eval d = .slice (some ⟨g, off, none⟩) dl dc) {cs : List Value} {T : TypeId} (hi : L[i]? = some (some (g, cs, T)))
    {u : Value} {m : Nat} {news : List Value} (hy : a.eval y = u) (hu : RowR w 1 u m news) (h1 : ∀ v, v ∈ news → v.oneCell' = true) (hm : m ≤ dl) (hle : off + m ≤ cs.length)
    {cs' : List Value} (hcs : cs.take off ++ news ++ cs.drop (off + m) = cs')
    (hk : ∀ w1, St w0 A w1 (L.set i (some (g, cs', T))) → K (a.put o.dst (goInt m)) w1) : o.wp P a w K Q := by
  subst hcs
  obtain ⟨hund, ti, z, hinfo, hzero, hsz, rfl, hzs, hpos⟩ := hT
  have hl : news.length = m := by simpa using hu.1
  refine owp_val (v := goInt m) (w1 := w.setRow g (cs.take off ++ news ++ cs.drop (off + m)).toArray) ?_ (hk _ (hS.setRow hi _))
  have hg := hS.has _ (mem_getElem? hi) _ _ _ rfl
  rcases hu.2 with ⟨rfl, rfl⟩ | ⟨ad, cap, rfl, _, _, hc⟩
  · have hn : news = [] := List.eq_nil_of_length_eq_zero hl
    subst hn
    have hr := run_copy_nil (P := P) w dT sT o.type e ⟨g, off, none⟩ dl dc hund (by simp [hinfo])
    have hself : w.setRow g (cs.take off ++ [] ++ cs.drop (off + 0)).toArray = w := by
      have := setRow_self w g cs.toArray T (0, 0) hg
      simpa using this
    rw [hself]
    unfold execOp
    simp only [ho, resolve, invoke, builtin, Sem.run_bind, Sem.run_pure, Result.andThen_ok, List.map_toArray, List.map_cons, List.map_nil, hd, hy, hr]
    rfl
  · have hr := run_copy_row (P := P) w dT sT o.type e g off dl dc ad m cap cs.toArray T news hund (by simp [hinfo, hsz]) hg (by rw [hl]; exact (Nat.min_eq_left hm).symm) hc (by rw [hl]; simpa using hle) h1
    unfold execOp
    simp only [ho, resolve, invoke, builtin, Sem.run_bind, Sem.run_pure, Result.andThen_ok, List.map_toArray, List.map_cons, List.map_nil, hd, hy, hr]
    simp [hl, List.append_assoc]

/-- A slice literal, its cells known. -/
theorem owp_bslice {T e : TypeId} {len : Nat} {parts : Array (Nat × Operand)} (ho : o.op = .buildSlice T len parts) {size bytes : Nat} [hT : SliceOK P T e size bytes]
    (hlen : len * size ≤ 16777216) {zs : List Value} (hz : len * size = 0 ∨ ZeroOK P e zs)
    {cs : List Value} (hf : Instr.fill (fun i => some (i * size, size)) ((Array.range (len * size)).map (zs.toArray[· % zs.toArray.size]!)) (parts.map fun (i, x) => (i, a.eval x)).toList = some cs.toArray)
    (hk : ∀ g w1, St w0 A w1 (L ++ [some (g, cs, e)]) → K (a.put o.dst (.slice (some ⟨g, 0, none⟩) len len)) w1) : o.wp P a w K Q := by
  obtain ⟨hund, ti, z, hinfo, hzero, rfl, rfl, hzs, hpos⟩ := hT
  refine owp_val (w1 := w.alloc (.cells cs.toArray e)) (v := .slice (some ⟨w.heap.size, 0, none⟩) len len) ?_ (hk _ _ (hS.alloc cs e))
  have hbig : ¬ (16777216 < len * ti.size) := by omega
  unfold execOp
  by_cases h0 : len * ti.size = 0
  · rw [h0] at hf
    have e0 : (Array.range 0).map (zs.toArray[· % zs.toArray.size]!) = (Array.range 0).map ((#[] : Array Value)[· % (#[] : Array Value).size]!) := by simp
    rw [e0] at hf
    simp [ho, Instr.buildSlice, run_underlying hund, sizeOf, typeInfo, hinfo, h0, newRow, newObj, Sem.run] at hf ⊢
    rw [hf]
    simp [newRow, newObj, Sem.run]
  · have hz := hz.resolve_left h0
    obtain ⟨hz⟩ := hz
    have hzc : z.cells = zs.toArray := by simpa [hinfo, hzero] using hz
    simp [ho, Instr.buildSlice, run_underlying hund, sizeOf, typeInfo, zeroValue, hinfo, hzero, hzc, hbig, h0, newRow, newObj, Sem.run] at hf ⊢
    simp [hf, newRow, newObj, Sem.run]

end
end Go.Proofs.Ytjgphbdffhmmgaa
