/-
  Laws of the walk over a list of known blocks: what a step of the model's memory does to such a list. Conditions: none beyond those that each theorem states.
  One law for each operation of the walk that touches memory, over a list of known blocks.
  Laws for slices: append, copy, slice literals; struct literals; results that lie in cells.
  The plain data of the layers, and what is read off bytes: no program in sight.
-/
import Derived.WalkKit
import Derived.WalkSpells
import Derived.Lib.Hide
import Derived.Laws.CopyRow
import Derived.Laws.CopyOwn
import Derived.Laws.Append
import Derived.Laws.AppendOwn
import Derived.Laws.Rows
namespace Go.Proofs.Ytldmkafobbemjaa
set_option linter.unusedSimpArgs false
set_option linter.unusedVariables false
open Go Go.RowKit

abbrev Ent := Option (Nat × List Value × TypeId)
def Holds (w : World) (x : Ent) : Prop := ∀ g cs T, x = some (g, cs, T) → w.heap[g]? = some (.cells cs.toArray T (0, 0))
def keys (L : List Ent) : List Nat := L.filterMap (fun x => x.map (·.1))

structure St (w0 : World) (A : List Nat) (w : World) (L : List Ent) : Prop where
  os : w.os = w0.os
  tape : w.tape = w0.tape
  output : w.output = w0.output
  size : w0.heap.size ≤ w.heap.size
  keep : ∀ k, k < w0.heap.size → k ∉ A → w.heap[k]? = w0.heap[k]?
  has : ∀ x, x ∈ L → Holds w x
  nodup : (keys L).Nodup
  fresh : ∀ k, k ∈ keys L → k ∈ A ∨ w0.heap.size ≤ k

theorem mem_keys {L : List Ent} {k : Nat} : k ∈ keys L ↔ ∃ cs T, some (k, cs, T) ∈ L := by
  unfold keys
  rw [List.mem_filterMap]
  constructor
  · rintro ⟨x, hx, h⟩
    cases x with
    | none => cases h
    | some y => obtain ⟨g, cs, T⟩ := y; simp at h; subst h; exact ⟨cs, T, hx⟩
  · rintro ⟨cs, T, h⟩; exact ⟨_, h, rfl⟩

theorem lt_of_some {w : World} {g : Nat} {o : Obj} (h : w.heap[g]? = some o) : g < w.heap.size := (Array.getElem?_eq_some_iff.1 h).1

theorem St.lt {w0 w : World} {A : List Nat} {L : List Ent} (h : St w0 A w L) {k : Nat} (hk : k ∈ keys L) : k < w.heap.size := by
  obtain ⟨cs, T, hm⟩ := mem_keys.1 hk
  exact lt_of_some (h.has _ hm _ _ _ rfl)

theorem keys_append (L M : List Ent) : keys (L ++ M) = keys L ++ keys M := by simp [keys]

theorem mem_getElem? {α : Type} {L : List α} {i : Nat} {x : α} (h : L[i]? = some x) : x ∈ L := List.mem_of_getElem? h

theorem St.get {w0 w : World} {A : List Nat} {L : List Ent} (h : St w0 A w L) (i : Nat) {x : Ent} (hi : L[i]? = some x) : Holds w x := h.has x (mem_getElem? hi)

/-- The start of a call: what is known of the blocks that it may write. -/
theorem St.start (w : World) (L : List Ent) (hh : ∀ x, x ∈ L → Holds w x) (hn : (keys L).Nodup) : St w (keys L) w L :=
  ⟨rfl, rfl, rfl, Nat.le_refl _, fun _ _ _ => rfl, hh, hn, fun k hk => .inl hk⟩

theorem St.nil (w : World) : St w [] w [] := St.start w [] (fun _ h => by cases h) List.nodup_nil

theorem St.drew {w0 w : World} {A : List Nat} {L : List Ent} (h : St w0 A w L) : St w0 A w.drew L :=
  ⟨h.os, h.tape, h.output, h.size, h.keep, fun x hx => h.has x hx, h.nodup, h.fresh⟩

theorem St.alloc {w0 w : World} {A : List Nat} {L : List Ent} (h : St w0 A w L) (cs : List Value) (T : TypeId) :
    St w0 A (w.alloc (.cells cs.toArray T)) (L ++ [some (w.heap.size, cs, T)]) := by
  refine ⟨h.os, h.tape, h.output, ?_, ?_, ?_, ?_, ?_⟩
  · have := h.size; simp; omega
  · intro k hk ha
    rw [Below.heap_alloc w _ k (Nat.lt_of_lt_of_le hk h.size)]
    exact h.keep k hk ha
  · intro x hx g cs' T' e
    rcases List.mem_append.1 hx with hx | hx
    · have := h.has x hx g cs' T' e
      rw [Below.heap_alloc w _ g (lt_of_some this)]
      exact this
    · simp at hx; subst hx; cases e
      exact heap_alloc_new w _
  · rw [keys_append, List.nodup_append]
    refine ⟨h.nodup, by simp [keys], ?_⟩
    intro a ha b hb
    simp [keys] at hb
    subst hb
    have := h.lt ha
    omega
  · intro k hk
    rw [keys_append] at hk
    rcases List.mem_append.1 hk with hk | hk
    · exact h.fresh k hk
    · simp [keys] at hk; subst hk; exact .inr h.size

theorem keys_set {L : List Ent} {i : Nat} {x y : Ent} (hi : L[i]? = some x) (hk : x.map (·.1) = y.map (·.1)) : keys (L.set i y) = keys L := by
  induction L generalizing i with
  | nil => rfl
  | cons z L ih =>
    cases i with
    | zero => simp at hi; subst hi; simp [keys, List.filterMap_cons, hk]
    | succ i =>
      simp at hi
      have := ih hi
      simp [keys, List.filterMap_cons] at this ⊢
      split <;> simp [this]

theorem nodup_other {L : List Ent} {i j : Nat} {g : Nat} {cs cs' : List Value} {T T' : TypeId} (hn : (keys L).Nodup)
    (hi : L[i]? = some (some (g, cs, T))) (hj : L[j]? = some (some (g, cs', T'))) : i = j := by
  induction L generalizing i j with
  | nil => simp at hi
  | cons z L ih =>
    cases i with
    | zero =>
      cases j with
      | zero => rfl
      | succ j =>
        simp at hi hj
        subst hi
        have hn2 : (g :: keys L).Nodup := hn
        exact ((List.nodup_cons.1 hn2).1 (mem_keys.2 ⟨_, _, mem_getElem? hj⟩)).elim
    | succ i =>
      cases j with
      | zero =>
        simp at hi hj
        subst hj
        have hn2 : (g :: keys L).Nodup := hn
        exact ((List.nodup_cons.1 hn2).1 (mem_keys.2 ⟨_, _, mem_getElem? hi⟩)).elim
      | succ j =>
        simp at hi hj
        have hn' : (keys L).Nodup := by
          simp [keys, List.filterMap_cons] at hn ⊢
          split at hn
          · exact hn
          · exact (List.nodup_cons.1 hn).2
        rw [ih hn' hi hj]

/-- A block that is known is written. -/
theorem St.setRow {w0 w : World} {A : List Nat} {L : List Ent} (h : St w0 A w L) {i : Nat} {g : Nat} {cs : List Value} {T : TypeId}
    (hi : L[i]? = some (some (g, cs, T))) (cs' : List Value) : St w0 A (w.setRow g cs'.toArray) (L.set i (some (g, cs', T))) := by
  have hm := mem_getElem? hi
  have hg := h.has _ hm _ _ _ rfl
  have hk : keys (L.set i (some (g, cs', T))) = keys L := keys_set hi rfl
  have hgk : g ∈ keys L := mem_keys.2 ⟨cs, T, hm⟩
  refine ⟨h.os, h.tape, h.output, by simp; exact h.size, ?_, ?_, by rw [hk]; exact h.nodup, by rw [hk]; exact h.fresh⟩
  · intro k hlt ha
    have hne : k ≠ g := by
      rintro rfl
      rcases h.fresh k hgk with hh | hh
      · exact ha hh
      · omega
    rw [setRow_other w g k _ hne]
    exact h.keep k hlt ha
  · intro x hx k cs2 T2 e
    subst e
    obtain ⟨j, hj⟩ := List.getElem?_of_mem hx
    by_cases hij : i = j
    · subst hij
      rw [List.getElem?_set] at hj
      split at hj
      · rename_i hlt
        simp at hj
        obtain ⟨rfl, rfl, rfl⟩ := hj.2
        exact setRow_heap w g _ _ T _ hg
      · rename_i hlt; exact (hlt rfl).elim
    · rw [List.getElem?_set_ne hij] at hj
      have hne : k ≠ g := by
        rintro rfl
        exact hij (nodup_other h.nodup hi hj)
      rw [setRow_other w g k _ hne]
      exact h.has _ (mem_getElem? hj) _ _ _ rfl

/-- What is known may be forgotten, and told in another order. -/
theorem St.pick {w0 w : World} {A : List Nat} {L : List Ent} (h : St w0 A w L) (is : List Nat) {L' : List Ent}
    (hL : is.filterMap (fun i => L[i]?) = L') (hn : is.Nodup) : St w0 A w L' := by
  have hsub : ∀ x, x ∈ L' → x ∈ L := by
    intro x hx
    rw [← hL, List.mem_filterMap] at hx
    obtain ⟨i, _, hi⟩ := hx
    exact mem_getElem? hi
  refine ⟨h.os, h.tape, h.output, h.size, h.keep, fun x hx => h.has x (hsub x hx), ?_, ?_⟩
  · subst hL
    clear hsub
    induction is with
    | nil => exact List.nodup_nil
    | cons i is ih =>
      have hn' := List.nodup_cons.1 hn
      have ih' := ih hn'.2
      simp only [List.filterMap_cons]
      cases hi : L[i]? with
      | none => exact ih'
      | some x =>
        cases x with
        | none => simpa [keys] using ih'
        | some y =>
          obtain ⟨g, cs, T⟩ := y
          simp only [keys, List.filterMap_cons, Option.map_some]
          refine List.nodup_cons.2 ⟨?_, ih'⟩
          intro hm
          obtain ⟨cs', T', hm'⟩ := mem_keys.1 hm
          rw [List.mem_filterMap] at hm'
          obtain ⟨j, hj, hj'⟩ := hm'
          have := nodup_other h.nodup hi hj'
          subst this
          exact hn'.1 hj
  · intro k hk
    obtain ⟨cs, T, hm⟩ := mem_keys.1 hk
    exact h.fresh k (mem_keys.2 ⟨cs, T, hsub _ hm⟩)

/-- A callee that may write one known block (or none, where there is no block), and leaves new ones behind. -/
theorem St.call1 {w0 w w' : World} {A : List Nat} {L N : List Ent} (h : St w0 A w L) (i : Nat) {x x' : Ent} (hi : L[i]? = some x)
    (hc : St w (keys [x]) w' (x' :: N)) : St w0 A w' (L.set i x' ++ N) := by
  have hxk : ∀ k, k ∈ keys [x] → k ∈ keys L := by
    intro k hk
    obtain ⟨cs, T, hm⟩ := mem_keys.1 hk
    simp at hm
    exact mem_keys.2 ⟨cs, T, hm ▸ mem_getElem? hi⟩
  have hset : ∀ y, y ∈ L.set i x' → y = x' ∨ ∃ j, j ≠ i ∧ L[j]? = some y := by
    intro y hy
    obtain ⟨j, hj⟩ := List.getElem?_of_mem hy
    by_cases hij : i = j
    · subst hij
      rw [List.getElem?_set] at hj
      simp at hj
      exact .inl hj.2.symm
    · rw [List.getElem?_set_ne hij] at hj
      exact .inr ⟨j, fun e => hij e.symm, hj⟩
  have hothers : ∀ j y, j ≠ i → L[j]? = some y → ∀ k, y.map (·.1) = some k → k ∉ keys [x] := by
    intro j y hj hy k hk hkx
    obtain ⟨cs, T, hm⟩ := mem_keys.1 hkx
    simp at hm
    cases y with
    | none => cases hk
    | some z =>
      obtain ⟨g, cs2, T2⟩ := z
      simp at hk
      subst hk
      exact hj (nodup_other h.nodup hy (by rw [hi, hm]))
  refine ⟨hc.os.trans h.os, hc.tape.trans h.tape, hc.output.trans h.output, Nat.le_trans h.size hc.size, ?_, ?_, ?_, ?_⟩
  · intro k hk ha
    rw [hc.keep k (Nat.lt_of_lt_of_le hk h.size) ?_]
    · exact h.keep k hk ha
    · intro hx
      rcases h.fresh k (hxk k hx) with hh | hh
      · exact ha hh
      · omega
  · intro y hy g cs T e
    rcases List.mem_append.1 hy with hy | hy
    · rcases hset y hy with rfl | ⟨j, hj, hjy⟩
      · exact hc.has _ (by simp) g cs T e
      · have hh := h.has y (mem_getElem? hjy) g cs T e
        rw [hc.keep g (lt_of_some hh) (hothers j y hj hjy g (by rw [e]; rfl))]
        exact hh
    · exact hc.has _ (by simp [hy]) g cs T e
  · -- nodup
    have hcn := hc.nodup
    have key : ∀ (M : List Ent) (i : Nat), M[i]? = some x → (keys M).Nodup → (∀ k, k ∈ keys M → k < w.heap.size) → (keys (M.set i x' ++ N)).Nodup := by
      intro M
      induction M with
      | nil => intro i hi; simp at hi
      | cons z M ih =>
        intro i hi hn hlt
        have hc1 : (keys (x' :: N)).Nodup := hcn
        have hN : (keys N).Nodup := by
          simp only [keys, List.filterMap_cons] at hc1 ⊢
          split at hc1
          · exact hc1
          · exact (List.nodup_cons.1 hc1).2
        have hnM : (keys M).Nodup := by
          simp only [keys, List.filterMap_cons] at hn ⊢
          split at hn
          · exact hn
          · exact (List.nodup_cons.1 hn).2
        have hltM : ∀ k, k ∈ keys M → k < w.heap.size := by
          intro k hk
          apply hlt
          obtain ⟨cs, T, hm⟩ := mem_keys.1 hk
          exact mem_keys.2 ⟨cs, T, by simp [hm]⟩
        have hzM : ∀ g, z.map (·.1) = some g → g ∉ keys M := by
          intro g hg hm
          cases z with
          | none => cases hg
          | some y =>
            simp at hg
            simp only [keys, List.filterMap_cons, Option.map_some] at hn
            exact (List.nodup_cons.1 hn).1 (by rw [hg]; exact hm)
        cases i with
        | zero =>
          simp at hi
          subst hi
          simp only [List.set_cons_zero, List.cons_append]
          have hx'fresh : ∀ g, x'.map (·.1) = some g → g ∈ keys [z] ∨ w.heap.size ≤ g := by
            intro g hg
            apply hc.fresh
            cases x' with
            | none => cases hg
            | some y => simp at hg; subst hg; simp [keys]
          have hNfresh : ∀ g, g ∈ keys N → g ∉ keys M := by
            intro g hg hm
            have hl := hltM g hm
            have hf := hc.fresh g (by obtain ⟨cs, T, hm⟩ := mem_keys.1 hg; exact mem_keys.2 ⟨cs, T, by simp [hm]⟩)
            rcases hf with hf | hf
            · obtain ⟨cs, T, hm'⟩ := mem_keys.1 hf
              simp at hm'
              exact hzM g (by rw [← hm']; rfl) hm
            · omega
          have hMN : (keys (M ++ N)).Nodup := by
            rw [keys_append, List.nodup_append]
            exact ⟨hnM, hN, fun a ha b hb e => hNfresh b hb (e ▸ ha)⟩
          cases hx' : x' with
          | none => simpa [keys] using hMN
          | some y =>
            simp only [keys, List.filterMap_cons, Option.map_some]
            refine List.nodup_cons.2 ⟨?_, hMN⟩
            intro hm
            change y.1 ∈ keys (M ++ N) at hm
            rw [keys_append] at hm
            rcases List.mem_append.1 hm with hm | hm
            · rcases hx'fresh y.1 (by rw [hx']; rfl) with hf | hf
              · obtain ⟨cs, T, hm'⟩ := mem_keys.1 hf
                simp at hm'
                exact hzM y.1 (by rw [← hm']; rfl) hm
              · have := hltM _ hm; omega
            · rw [hx'] at hc1
              simp only [keys, List.filterMap_cons, Option.map_some] at hc1
              exact (List.nodup_cons.1 hc1).1 hm
        | succ i =>
          simp at hi
          simp only [List.set_cons_succ, List.cons_append]
          have ih' := ih i hi hnM hltM
          cases hz : z with
          | none => simpa [keys] using ih'
          | some y =>
            simp only [keys, List.filterMap_cons, Option.map_some]
            refine List.nodup_cons.2 ⟨?_, ih'⟩
            intro hm
            change y.1 ∈ keys (M.set i x' ++ N) at hm
            have hyM := hzM y.1 (by rw [hz]; rfl)
            have hylt : y.1 < w.heap.size := hlt y.1 (by rw [hz]; simp [keys])
            have hyx : y.1 ∉ keys [x] := by
              intro hk
              obtain ⟨cs, T, hm'⟩ := mem_keys.1 hk
              simp at hm'
              exact hyM (mem_keys.2 ⟨cs, T, hm' ▸ mem_getElem? hi⟩)
            have hyc : y.1 ∉ keys (x' :: N) := by
              intro hk
              rcases hc.fresh _ hk with hf | hf
              · exact hyx hf
              · omega
            rw [keys_append] at hm
            rcases List.mem_append.1 hm with hm | hm
            · obtain ⟨cs, T, hm'⟩ := mem_keys.1 hm
              rcases List.mem_or_eq_of_mem_set hm' with hm' | hm'
              · exact hyM (mem_keys.2 ⟨cs, T, hm'⟩)
              · exact hyc (mem_keys.2 ⟨cs, T, by simp [hm']⟩)
            · obtain ⟨cs, T, hm'⟩ := mem_keys.1 hm
              exact hyc (mem_keys.2 ⟨cs, T, by simp [hm']⟩)
    exact key L i hi h.nodup (fun k hk => h.lt hk)
  · intro k hk
    rw [keys_append] at hk
    have fromC : k ∈ keys (x' :: N) → k ∈ A ∨ w0.heap.size ≤ k := by
      intro hk
      rcases hc.fresh k hk with hf | hf
      · exact h.fresh k (hxk k hf)
      · exact .inr (Nat.le_trans h.size hf)
    rcases List.mem_append.1 hk with hk | hk
    · obtain ⟨cs, T, hm'⟩ := mem_keys.1 hk
      rcases List.mem_or_eq_of_mem_set hm' with hm' | hm'
      · exact h.fresh k (mem_keys.2 ⟨cs, T, hm'⟩)
      · exact fromC (mem_keys.2 ⟨cs, T, by simp [hm']⟩)
    · obtain ⟨cs, T, hm'⟩ := mem_keys.1 hk
      exact fromC (mem_keys.2 ⟨cs, T, by simp [hm']⟩)

theorem St.addNone {w0 w : World} {A : List Nat} {L : List Ent} (h : St w0 A w L) : St w0 A w (L ++ [none]) :=
  ⟨h.os, h.tape, h.output, h.size, h.keep, (fun x hx => by
      rcases List.mem_append.1 hx with hx | hx
      · exact h.has x hx
      · simp at hx; subst hx; intro g cs T e; cases e), by simpa [keys] using h.nodup, fun k hk => h.fresh k (by simpa [keys] using hk)⟩

/-- A callee that writes nothing that was there. -/
theorem St.call0 {w0 w w' : World} {A : List Nat} {L N : List Ent} (h : St w0 A w L) (hc : St w [] w' N) : St w0 A w' (L ++ N) := by
  have h1 : St w0 A w (none :: L) := ⟨h.os, h.tape, h.output, h.size, h.keep, fun x hx => by
      rcases List.mem_cons.1 hx with rfl | hx
      · intro g cs T e; cases e
      · exact h.has x hx, by simpa [keys] using h.nodup, fun k hk => h.fresh k (by simpa [keys] using hk)⟩
  have h2 : St w (keys [none]) w' (none :: N) := ⟨hc.os, hc.tape, hc.output, hc.size, hc.keep, fun x hx => by
      rcases List.mem_cons.1 hx with rfl | hx
      · intro g cs T e; cases e
      · exact hc.has x hx, by simpa [keys] using hc.nodup, fun k hk => hc.fresh k (by simpa [keys] using hk)⟩
  have h3 := h1.call1 0 (x := none) (x' := none) rfl h2
  exact ⟨h3.os, h3.tape, h3.output, h3.size, h3.keep, fun x hx => h3.has x (List.mem_cons_of_mem _ hx), h3.nodup, h3.fresh⟩

end Go.Proofs.Ytldmkafobbemjaa
namespace Go.Proofs.Ytldmkafobbemjaa
set_option linter.unusedSimpArgs false
set_option linter.unusedVariables false
open Go Go.RowKit

def aggD : TypeDesc → Bool
  | .struct _ | .array _ _ => true
  | _ => false

class TyOK (P : Program) (ty : TypeId) (agg : outParam Bool) (n : outParam Nat) : Prop where
  und : ∃ d, P.underlying ty = some d ∧ aggD d = agg
  size : (P.info? ty).map (·.size) = some n

class ZeroOK (P : Program) (ty : TypeId) (zs : outParam (List Value)) : Prop where
  zero : ((P.info? ty).bind (·.zero)).map (·.cells) = some zs.toArray

class SliceOK (P : Program) (T : TypeId) (e : outParam TypeId) (size : outParam Nat) (bytes : outParam Nat) : Prop where
  und : P.underlying T = some (.slice e)
  info : ∃ i z, P.info? e = some i ∧ i.zero = some z ∧ i.size = size ∧ i.bytes = bytes ∧ z.cells.size = size ∧ 0 < size

section
variable {P : Program} {ops : Array Oper} {Q : Exit → Act → World → Prop} {K : Act → World → Prop} {a : Act} {w : World} {rest : List Oper} {o : Oper}

theorem wpl (hw : Region.wanted o (yielded ops a.tmps) = true) (h : o.wp P a w (wpList P ops Q rest) Q) : wpList P ops Q (o :: rest) a w := by
  unfold wpList
  rw [if_pos hw]
  exact .inl h

theorem owp_val {v : Value} {w1 : World} (hr : (execOp a.eval o).run P w = .ok (.value v) w1) (h : K (a.put o.dst v) w1) : o.wp P a w K Q := by
  unfold Oper.wp
  rw [hr]
  exact h

theorem owp_skip {w1 : World} (hr : (execOp a.eval o).run P w = .ok .skip w1) (h : K (a.put o.dst undef) w1) : o.wp P a w K Q := by
  unfold Oper.wp
  rw [hr]
  exact h

theorem add_zero (g off j : Nat) : (⟨g, off, none⟩ : Addr).add j = ⟨g, off + j, none⟩ := by
  unfold Addr.add
  split <;> simp_all

/-- The cells from an address on. -/
def CellsAt (w : World) (ad : Addr) (vs : List Value) : Prop := ∀ j v, vs[j]? = some v → w.cell? (ad.add j) = some v

theorem cell_row {w : World} {g : Nat} {cs : Array Value} {T : TypeId} {fr : Nat × Nat} (h : w.heap[g]? = some (.cells cs T fr)) (j : Nat) : w.cell? ⟨g, j, none⟩ = cs[j]? := by
  simp [World.cell?, h]

theorem CellsAt.row {w : World} {g off n : Nat} {cs : Array Value} {T : TypeId} {fr : Nat × Nat} (h : w.heap[g]? = some (.cells cs T fr)) : CellsAt w ⟨g, off, none⟩ ((cs.toList.drop off).take n) := by
  intro j v hv
  rw [add_zero, cell_row h]
  rw [List.getElem?_take] at hv
  split at hv
  · rw [List.getElem?_drop] at hv
    simpa using hv
  · cases hv

theorem CellsAt.drew {ad : Addr} {vs : List Value} (h : CellsAt w ad vs) : CellsAt w.drew ad vs := h

theorem agg_run {ty : TypeId} {agg : Bool} {n : Nat} (h : TyOK P ty agg n) (w : World) : (isAgg ty).run P w = .ok agg w := by
  obtain ⟨⟨d, hd, ha⟩, _⟩ := h
  unfold isAgg
  rw [Sem.run_bind, run_underlying hd w]
  cases d <;> simp_all [aggD]

theorem size_run {ty : TypeId} {agg : Bool} {n : Nat} (h : TyOK P ty agg n) (w : World) : (sizeOf ty).run P w = .ok n w := by
  obtain ⟨_, hs⟩ := h
  cases hq : P.info? ty with
  | none => simp [hq] at hs
  | some i => simp [hq] at hs; simp [sizeOf, typeInfo, hq, hs]

theorem run_loadVar_agg {ty : TypeId} {n : Nat} [h : TyOK P ty true n] {ad : Addr} {vs : List Value} (hc : CellsAt w ad vs) (hn : vs.length = n) :
    (loadVar ty ad).run P w = .ok (.agg vs.toArray) w := by
  have hl := run_loadCells_list (P := P) w ad vs hc
  rw [hn] at hl
  simp [loadVar, Sem.run_bind, agg_run h, size_run h, hl]

theorem run_loadVar_one {ty : TypeId} {n : Nat} [h : TyOK P ty false n] {ad : Addr} {v : Value} (hc : w.cell? ad = some v) :
    (loadVar ty ad).run P w = .ok v w := by
  simp [loadVar, Sem.run_bind, agg_run h, load, Sem.run, hc]

theorem owp_loadR {ty : TypeId} {x : Operand} (ho : o.op = .load ty x) {ad : Addr} (hx : a.eval x = .pointer (some ad)) {n : Nat} [h : TyOK P ty true n]
    {vs : List Value} (hc : CellsAt w ad vs) (hn : vs.length = n) (hk : K (a.put o.dst (.agg vs.toArray)) w) : o.wp P a w K Q := by
  refine owp_val (w1 := w) (v := .agg vs.toArray) ?_ hk
  unfold execOp
  simp only [ho, hx, Instr.loadAt, Instr.sureAddr, Sem.run_bind, Sem.run_pure, Result.andThen_ok, run_loadVar_agg hc hn]

theorem owp_loadR1 {ty : TypeId} {x : Operand} (ho : o.op = .load ty x) {ad : Addr} (hx : a.eval x = .pointer (some ad)) {n : Nat} [h : TyOK P ty false n]
    {v : Value} (hc : w.cell? ad = some v) (hk : K (a.put o.dst v) w) : o.wp P a w K Q := by
  refine owp_val (w1 := w) (v := v) ?_ hk
  unfold execOp
  simp only [ho, hx, Instr.loadAt, Instr.sureAddr, Sem.run_bind, Sem.run_pure, Result.andThen_ok, run_loadVar_one (ty := ty) hc]

section
variable {w0 : World} {A : List Nat} {L : List Ent} (hS : St w0 A w L)
include hS

theorem owp_load (i : Nat) {ty : TypeId} {x : Operand} (ho : o.op = .load ty x) {g off : Nat} (hx : a.eval x = .pointer (some ⟨g, off, none⟩))
    {cs : List Value} {T : TypeId} (hi : L[i]? = some (some (g, cs, T))) {n : Nat} [h : TyOK P ty true n]
    {vs : List Value} (hv : (cs.drop off).take n = vs) (hn : vs.length = n) (hk : K (a.put o.dst (.agg vs.toArray)) w) : o.wp P a w K Q := by
  subst hv
  refine owp_loadR ho hx (h := h) ?_ hn hk
  have := CellsAt.row (off := off) (n := n) (hS.has _ (mem_getElem? hi) _ _ _ rfl)
  simpa using this

theorem owp_load1 (i : Nat) {ty : TypeId} {x : Operand} (ho : o.op = .load ty x) {g off : Nat} (hx : a.eval x = .pointer (some ⟨g, off, none⟩))
    {cs : List Value} {T : TypeId} (hi : L[i]? = some (some (g, cs, T))) {n : Nat} [h : TyOK P ty false n]
    {v : Value} (hv : cs[off]? = some v) (hk : K (a.put o.dst v) w) : o.wp P a w K Q := by
  refine owp_loadR1 ho hx (h := h) ?_ hk
  rw [cell_row (hS.has _ (mem_getElem? hi) _ _ _ rfl)]
  simpa using hv

theorem owp_alloc {T : TypeId} (ho : o.op = .alloc T) {zs : List Value} [hz : ZeroOK P T zs]
    (hk : ∀ g w1, St w0 A w1 (L ++ [some (g, zs, T)]) → K (a.put o.dst (.pointer (some ⟨g, 0, none⟩))) w1) : o.wp P a w K Q := by
  refine owp_val (w1 := w.alloc (.cells zs.toArray T)) (v := .pointer (some ⟨w.heap.size, 0, none⟩)) ?_ (hk _ _ (hS.alloc zs T))
  obtain ⟨hz⟩ := hz
  cases hq : P.info? T with
  | none => simp [hq] at hz
  | some i =>
    cases hq2 : i.zero with
    | none => simp [hq, hq2] at hz
    | some z =>
      simp [hq, hq2] at hz
      unfold execOp
      simp [ho, Instr.alloc, zeroValue, typeInfo, hq, hq2, newVar, newRow, newObj, Sem.run, hz]

theorem owp_allocAt (d : Tmp) (hd : o.dst = some d) {T : TypeId} (ho : o.op = .alloc T) {zs : List Value} [hz : ZeroOK P T zs]
    (hk : ∀ g w1, St w0 A w1 (L ++ [some (g, zs, T)]) → K (a.put o.dst (.pointer (some ⟨g, 0, none⟩))) w1) : o.wp P a w K Q := owp_alloc hS ho hk

theorem run_storeVar {ty : TypeId} {agg : Bool} {n : Nat} [h : TyOK P ty agg n] {i : Nat} {g off : Nat} {cs : List Value} {T : TypeId} (hi : L[i]? = some (some (g, cs, T)))
    {y : Value} {vs : List Value} (hy : y.cells = vs.toArray) (hn : vs.length = n) (hle : off + n ≤ cs.length) (h1 : ∀ v, v ∈ vs → v.oneCell' = true) :
    (storeVar ty ⟨g, off, none⟩ y).run P w = .ok () (w.setRow g (cs.take off ++ vs ++ cs.drop (off + n)).toArray) := by
  have hst := run_storeCells_at P g off T vs 0 cs.toArray w (hS.has _ (mem_getElem? hi) _ _ _ rfl) (by simp; omega) h1
  subst hn
  simp [storeVar, size_run h, hy, hst, List.append_assoc]

theorem owp_store (i : Nat) {ty : TypeId} {x y : Operand} (ho : o.op = .store ty x y) {g off : Nat} (hx : a.eval x = .pointer (some ⟨g, off, none⟩))
    {cs : List Value} {T : TypeId} (hi : L[i]? = some (some (g, cs, T))) {agg : Bool} {n : Nat} [h : TyOK P ty agg n]
    {vs : List Value} (hy : (a.eval y).cells = vs.toArray) (hn : vs.length = n) (hle : off + n ≤ cs.length) (h1 : ∀ v, v ∈ vs → v.oneCell' = true)
    {cs' : List Value} (hcs : cs.take off ++ vs ++ cs.drop (off + n) = cs')
    (hk : ∀ w1, St w0 A w1 (L.set i (some (g, cs', T))) → K (a.put o.dst undef) w1) : o.wp P a w K Q := by
  subst hcs
  refine owp_skip (w1 := w.setRow g (cs.take off ++ vs ++ cs.drop (off + n)).toArray) ?_ (hk _ (hS.setRow hi _))
  unfold execOp
  simp only [ho, hx, Instr.storeAt, Instr.sureAddr, Sem.run_bind, Sem.run_pure, Result.andThen_ok, run_storeVar hS (ty := ty) hi hy hn hle h1]

/-- One cell. -/
theorem owp_store1 (i : Nat) {ty : TypeId} {x y : Operand} (ho : o.op = .store ty x y) {g off : Nat} (hx : a.eval x = .pointer (some ⟨g, off, none⟩))
    {cs : List Value} {T : TypeId} (hi : L[i]? = some (some (g, cs, T))) {agg : Bool} [h : TyOK P ty agg 1]
    {v : Value} (hy : a.eval y = v) (h1 : v.oneCell' = true) (hle : off < cs.length)
    {cs' : List Value} (hcs : cs.set off v = cs')
    (hk : ∀ w1, St w0 A w1 (L.set i (some (g, cs', T))) → K (a.put o.dst undef) w1) : o.wp P a w K Q := by
  subst hcs
  refine owp_store hS i ho hx hi (h := h) (vs := [v]) (by rw [hy]; cases v <;> first | rfl | cases h1) rfl hle (by simpa using h1) ?_ hk
  rw [List.set_eq_take_append_cons_drop, if_pos hle]
  simp

end
end

end Go.Proofs.Ytldmkafobbemjaa
namespace Go.Proofs.Ytldmkafobbemjaa
set_option linter.unusedSimpArgs false
set_option linter.unusedVariables false
open Go Go.RowKit

/-- A slice of the call's own, as it is built: no block, or a whole one from its head. -/
def RowV (e : TypeId) (size : Nat) (v : Value) (n : Nat) (xs : List Value) (x : Ent) : Prop :=
  (v = .slice none 0 0 ∧ n = 0 ∧ xs = [] ∧ x = none) ∨
  ∃ g cap sp, v = .slice (some ⟨g, 0, none⟩) n cap ∧ x = some (g, xs ++ sp, e) ∧ xs.length = n * size ∧ (xs ++ sp).length = cap * size ∧ n ≤ cap ∧ cap ≤ maxLen

theorem RowV.nil (e : TypeId) (size : Nat) : RowV e size (.slice none 0 0) 0 [] none := .inl ⟨rfl, rfl, rfl, rfl⟩

theorem RowV.lit (e : TypeId) (size g n : Nat) (xs : List Value) (hl : xs.length = n * size) (hn : n ≤ maxLen) : RowV e size (.slice (some ⟨g, 0, none⟩) n n) n xs (some (g, xs, e)) :=
  .inr ⟨g, n, [], rfl, by simp, hl, by simpa using hl, Nat.le_refl _, hn⟩

theorem RowV.len {e : TypeId} {size n : Nat} {v : Value} {xs : List Value} {x : Ent} (h : RowV e size v n xs x) : xs.length = n * size := by
  rcases h with ⟨_, rfl, rfl, _⟩ | ⟨_, _, _, _, _, h, _⟩
  · simp
  · exact h

/-- A slice that is only read: nil, or cells of a block that are known in w. -/
def RowR (w : World) (size : Nat) (v : Value) (n : Nat) (xs : List Value) : Prop :=
  xs.length = n * size ∧ ((v = .slice none 0 0 ∧ n = 0) ∨ ∃ ad cap, v = .slice (some ad) n cap ∧ n ≤ cap ∧ (n = 0 ∨ ad.spot = none) ∧ CellsAt w ad xs)

theorem RowV.read {e : TypeId} {size n : Nat} {v : Value} {xs : List Value} {x : Ent} (h : RowV e size v n xs x) {w : World} (hh : Holds w x) : RowR w size v n xs := by
  refine ⟨h.len, ?_⟩
  rcases h with ⟨rfl, rfl, rfl, _⟩ | ⟨g, cap, sp, rfl, rfl, hl, _, hc, _⟩
  · exact .inl ⟨rfl, rfl⟩
  · refine .inr ⟨_, cap, rfl, hc, .inr rfl, ?_⟩
    have := CellsAt.row (off := 0) (n := xs.length) (hh _ _ _ rfl)
    simpa using this

section
variable {P : Program} {ops : Array Oper} {Q : Exit → Act → World → Prop} {K : Act → World → Prop} {a : Act} {w : World} {rest : List Oper} {o : Oper}
variable {w0 : World} {A : List Nat} {L : List Ent} (hS : St w0 A w L)
include hS

theorem run_append_st {T e : TypeId} {size bytes : Nat} [hT : SliceOK P T e size bytes] (ty : TypeId) (i : Nat) {x : Ent} (hi : L[i]? = some x) {v : Value} {n : Nat} {xs : List Value} (hv : RowV e size v n xs x)
    {u : Value} {m : Nat} {news : List Value} (hu : RowR w size u m news) (h1 : ∀ v, v ∈ news → v.oneCell' = true)
    (h63 : n + m ≤ maxLen) (hby : (n + m) * bytes ≤ 140737488355328) :
    ∃ v' x' w1, (Builtin.append_ #[T, T] ty #[v, u]).run P w = .ok v' w1 ∧ RowV e size v' (n + m) (xs ++ news) x' ∧ St w0 A w1 (L.set i x') ∧ (m ≠ 0 ∨ v ≠ .slice none 0 0 → v' ≠ .slice none 0 0) ∧ (m = 0 → v' = v ∧ x' = x ∧ w1 = w) := by
  obtain ⟨hund, ti, z, hinfo, hzero, rfl, rfl, hzs, hpos⟩ := hT
  have hset : L.set i x = L := by
    apply List.ext_getElem?
    intro j
    by_cases hij : i = j
    · subst hij
      rw [List.getElem?_set]
      have : i < L.length := by
        rcases Nat.lt_or_ge i L.length with h | h
        · exact h
        · simp [List.getElem?_eq_none h] at hi
      rw [hi]; simp [this]
    · rw [List.getElem?_set_ne hij]
  have hget : x ∈ L := mem_getElem? hi
  have hnl : news.length = m * ti.size := hu.1
  by_cases hm : m = 0
  · subst hm
    have hnn : news = [] := List.eq_nil_of_length_eq_zero (by simpa using hnl)
    subst hnn
    refine ⟨v, x, w, ?_, by simpa using hv, by rw [hset]; exact hS, by simp, fun _ => ⟨rfl, rfl, rfl⟩⟩
    rcases hv with ⟨rfl, rfl, rfl, rfl⟩ | ⟨g, cap, sp, rfl, rfl, hl, hl2, hc, hcm⟩
    · rcases hu.2 with ⟨rfl, _⟩ | ⟨ad, cap, rfl, _, _, hc⟩
      · simp [Builtin.append_, run_underlying hund, sizeOf, typeInfo, hinfo, Builtin.lenOf, Builtin.firstCells]
      · simp [Builtin.append_, run_underlying hund, sizeOf, typeInfo, hinfo, Builtin.lenOf, Builtin.firstCells, loadCells, loadCellsFrom]
    · rcases hu.2 with ⟨rfl, _⟩ | ⟨ad, cap', rfl, _, _, hc'⟩
      · simp [Builtin.append_, run_underlying hund, sizeOf, typeInfo, hinfo, Builtin.lenOf, Builtin.firstCells, hc, storeCells]
      · simp [Builtin.append_, run_underlying hund, sizeOf, typeInfo, hinfo, Builtin.lenOf, Builtin.firstCells, hc, storeCells, loadCells, loadCellsFrom]
  · have hne : ∃ ad cap, u = .slice (some ad) m cap ∧ CellsAt w ad news := by
      rcases hu.2 with ⟨_, h⟩ | ⟨ad, cap, rfl, _, _, hc⟩
      · exact (hm h).elim
      · exact ⟨ad, cap, rfl, hc⟩
    obtain ⟨ad, ucap, rfl, hcells⟩ := hne
    have hsmall : ((n + m : Nat) : Int) ≤ 9223372036854775807 := by simp only [maxLen] at h63; omega
    rcases hv with ⟨rfl, rfl, rfl, rfl⟩ | ⟨g, cap, sp, rfl, rfl, hl, hl2, hc, hcm⟩
    · have hr := run_append_nil (P := P) w T ty e ti z hund hinfo hzero ad m ucap news hnl hcells (by omega) (by simpa using hsmall) (by simp only [Nat.zero_add] at hby; omega)
      have hcap := grownCap_ge w m 0 e
      have hcapm := grownCap_le_maxLen w m 0 e (by simpa using h63)
      have harr : news.toArray ++ Builtin.zeroCells z.cells (grownCap w m 0 e - m) = (news ++ (Builtin.zeroCells z.cells (grownCap w m 0 e - m)).toList).toArray := by apply Array.ext'; simp
      rw [harr] at hr
      refine ⟨_, some (w.heap.size, news ++ (Builtin.zeroCells z.cells (grownCap w m 0 e - m)).toList, e), _, hr, .inr ⟨w.heap.size, _, (Builtin.zeroCells z.cells (grownCap w m 0 e - m)).toList, by simp, by simp, by simpa using hnl, ?_, by simpa using hcap, hcapm⟩, ?_, by simp, fun h => (hm h).elim⟩
      · simp only [List.nil_append, List.length_append, Array.length_toList, size_zeroCells, hzs, hnl, ← Nat.add_mul]
        congr 1
        omega
      · have hc1 := hS.call1 i (N := []) hi (x' := some (w.heap.size, news ++ (Builtin.zeroCells z.cells (grownCap w m 0 e - m)).toList, e)) ((St.nil w).drew.alloc (news ++ (Builtin.zeroCells z.cells (grownCap w m 0 e - m)).toList) e)
        rw [List.append_nil] at hc1
        exact hc1
    · by_cases hroom : n + m ≤ cap
      · have hfit : n * ti.size + news.length ≤ (xs ++ sp).toArray.size := by
          rw [List.size_toArray, hl2, hnl, ← Nat.add_mul]
          exact Nat.mul_le_mul_right _ hroom
        have hr := run_append_room (P := P) w T ty e ti hund hinfo g n cap (xs ++ sp).toArray (hS.has _ hget _ _ _ rfl) ad m ucap news hnl hcells h1 hroom hfit
        have hlist : (xs ++ sp).toArray.toList.take (n * ti.size) ++ news ++ (xs ++ sp).toArray.toList.drop (n * ti.size + news.length) = (xs ++ news) ++ sp.drop news.length := by
          simp only [List.toList_toArray]
          rw [← hl, List.take_left', List.drop_append]
          · have : (xs.drop (xs.length + news.length)) = [] := List.drop_eq_nil_of_le (by omega)
            rw [this]
            simp
          · rfl
        rw [hlist] at hr
        have hst := hS.setRow hi ((xs ++ news) ++ sp.drop news.length)
        refine ⟨_, some (g, (xs ++ news) ++ sp.drop news.length, e), _, hr, .inr ⟨g, cap, sp.drop news.length, rfl, rfl, by rw [List.length_append, hl, hnl, Nat.add_mul], ?_, hroom, hcm⟩, hst, by simp, fun h => (hm h).elim⟩
        have hsp : sp.length = (cap - n) * ti.size := by
          rw [List.length_append, hl] at hl2
          rw [Nat.sub_mul]; omega
        simp only [List.length_append, List.length_drop, hsp, hl, hnl]
        have e1 : cap = n + m + (cap - (n + m)) := by omega
        have e2 : cap - n = m + (cap - (n + m)) := by omega
        rw [e2, Nat.add_mul m]
        conv => rhs; rw [e1, Nat.add_mul, Nat.add_mul]
        omega
      · have holds : CellsAt w ⟨g, 0, none⟩ xs := by
          have := CellsAt.row (off := 0) (n := xs.length) (hS.has _ hget _ _ _ rfl)
          simpa using this
        have hr := run_append_grow (P := P) w T ty e ti z hund hinfo hzero ⟨g, 0, none⟩ n cap xs hl holds ad m ucap news hnl hcells (by omega) hsmall (growslice_fits (by omega) hby)
        have hcap := grownCap_ge w (n + m) cap e
        have hcapm := grownCap_le_maxLen w (n + m) cap e h63
        have harr : xs.toArray ++ news.toArray ++ Builtin.zeroCells z.cells (grownCap w (n + m) cap e - (n + m)) = ((xs ++ news) ++ (Builtin.zeroCells z.cells (grownCap w (n + m) cap e - (n + m))).toList).toArray := by apply Array.ext'; simp
        rw [harr] at hr
        refine ⟨_, some (w.heap.size, (xs ++ news) ++ (Builtin.zeroCells z.cells (grownCap w (n + m) cap e - (n + m))).toList, e), _, hr, .inr ⟨w.heap.size, _, (Builtin.zeroCells z.cells (grownCap w (n + m) cap e - (n + m))).toList, rfl, rfl, by rw [List.length_append, hl, hnl, Nat.add_mul], ?_, hcap, hcapm⟩, ?_, by simp, fun h => (hm h).elim⟩
        · simp only [List.length_append, Array.length_toList, size_zeroCells, hzs, hl, hnl, ← Nat.add_mul]
          congr 1
          omega
        · have h0 : St w (keys [some (g, xs ++ sp, e)]) w [] := ⟨rfl, rfl, rfl, Nat.le_refl _, fun _ _ _ => rfl, fun _ h => (by simp at h), List.nodup_nil, fun _ h => (by simp [keys] at h)⟩
          have hc1 := hS.call1 i (N := []) hi (x' := some (w.heap.size, (xs ++ news) ++ (Builtin.zeroCells z.cells (grownCap w (n + m) cap e - (n + m))).toList, e)) (h0.drew.alloc ((xs ++ news) ++ (Builtin.zeroCells z.cells (grownCap w (n + m) cap e - (n + m))).toList) e)
          rw [List.append_nil] at hc1
          exact hc1

theorem owp_append (i : Nat) {T e : TypeId} {s y : Operand} (ho : o.op = .call { callee := .builtin .append, args := #[s, y], argTypes := #[T, T] }) {size bytes : Nat} [hT : SliceOK P T e size bytes]
    {x : Ent} (hi : L[i]? = some x) {v : Value} {n : Nat} {xs : List Value} (hs : a.eval s = v) (hv : RowV e size v n xs x)
    {u : Value} {m : Nat} {news : List Value} (hy : a.eval y = u) (hu : RowR w size u m news) (h1 : ∀ v, v ∈ news → v.oneCell' = true)
    (h63 : n + m ≤ maxLen) (hby : (n + m) * bytes ≤ 140737488355328)
    (hk : ∀ v' x' w1, RowV e size v' (n + m) (xs ++ news) x' → St w0 A w1 (L.set i x') → (m ≠ 0 ∨ v ≠ .slice none 0 0 → v' ≠ .slice none 0 0) → K (a.put o.dst v') w1) : o.wp P a w K Q := by
  obtain ⟨v', x', w1, hr, hv', hst, hnil, _⟩ := run_append_st hS (hT := hT) o.type i hi hv hu h1 h63 hby
  refine owp_val (v := v') (w1 := w1) ?_ (hk _ _ _ hv' hst hnil)
  unfold execOp
  simp only [ho, resolve, invoke, builtin, Sem.run_bind, Sem.run_pure, Result.andThen_ok, List.map_toArray, List.map_cons, List.map_nil, hs, hy, hr]

/-- copy of as many cells as the destination takes. -/
theorem owp_copy (i : Nat) {dT sT e : TypeId} {d y : Operand} (ho : o.op = .call { callee := .builtin .copy, args := #[d, y], argTypes := #[dT, sT] }) {bytes : Nat} [hT : SliceOK P dT e 1 bytes]
    {g off dl dc : Nat} (hd : a.eval d = .slice (some ⟨g, off, none⟩) dl dc) {cs : List Value} {T : TypeId} (hi : L[i]? = some (some (g, cs, T)))
    {u : Value} {m : Nat} {news : List Value} (hy : a.eval y = u) (hu : RowR w 1 u m news) (h1 : ∀ v, v ∈ news → v.oneCell' = true) (hm : m ≤ dl) (hle : off + m ≤ cs.length)
    {cs' : List Value} (hcs : cs.take off ++ news ++ cs.drop (off + m) = cs')
    (hk : ∀ w1, St w0 A w1 (L.set i (some (g, cs', T))) → K (a.put o.dst (goInt m)) w1) : o.wp P a w K Q := by
  subst hcs
  obtain ⟨hund, ti, z, hinfo, hzero, hsz, rfl, hzs, hpos⟩ := hT
  have hl : news.length = m := by simpa using hu.1
  refine owp_val (v := goInt m) (w1 := w.setRow g (cs.take off ++ news ++ cs.drop (off + m)).toArray) ?_ (hk _ (hS.setRow hi _))
  have hg := hS.has _ (mem_getElem? hi) _ _ _ rfl
  rcases hu.2 with ⟨rfl, rfl⟩ | ⟨ad, cap, rfl, _, _, hc⟩
  · have hn : news = [] := List.eq_nil_of_length_eq_zero hl
    subst hn
    have hr := run_copy_nil (P := P) w dT sT o.type e ⟨g, off, none⟩ dl dc hund (by simp [hinfo])
    have hself : w.setRow g (cs.take off ++ [] ++ cs.drop (off + 0)).toArray = w := by
      have := setRow_self w g cs.toArray T (0, 0) hg
      simpa using this
    rw [hself]
    unfold execOp
    simp only [ho, resolve, invoke, builtin, Sem.run_bind, Sem.run_pure, Result.andThen_ok, List.map_toArray, List.map_cons, List.map_nil, hd, hy, hr]
    rfl
  · have hr := run_copy_row (P := P) w dT sT o.type e g off dl dc ad m cap cs.toArray T news hund (by simp [hinfo, hsz]) hg (by rw [hl]; exact (Nat.min_eq_left hm).symm) hc (by rw [hl]; simpa using hle) h1
    unfold execOp
    simp only [ho, resolve, invoke, builtin, Sem.run_bind, Sem.run_pure, Result.andThen_ok, List.map_toArray, List.map_cons, List.map_nil, hd, hy, hr]
    simp [hl, List.append_assoc]

/-- A slice literal, its cells known. -/
theorem owp_bslice {T e : TypeId} {len : Nat} {parts : Array (Nat × Operand)} (ho : o.op = .buildSlice T len parts) {size bytes : Nat} [hT : SliceOK P T e size bytes]
    (hlen : len * size ≤ 16777216) {zs : List Value} (hz : len * size = 0 ∨ ZeroOK P e zs)
    {cs : List Value} (hf : Instr.fill (fun i => some (i * size, size)) ((Array.range (len * size)).map (zs.toArray[· % zs.toArray.size]!)) (parts.map fun (i, x) => (i, a.eval x)).toList = some cs.toArray)
    (hk : ∀ g w1, St w0 A w1 (L ++ [some (g, cs, e)]) → K (a.put o.dst (.slice (some ⟨g, 0, none⟩) len len)) w1) : o.wp P a w K Q := by
  obtain ⟨hund, ti, z, hinfo, hzero, rfl, rfl, hzs, hpos⟩ := hT
  refine owp_val (w1 := w.alloc (.cells cs.toArray e)) (v := .slice (some ⟨w.heap.size, 0, none⟩) len len) ?_ (hk _ _ (hS.alloc cs e))
  have hbig : ¬ (16777216 < len * ti.size) := by omega
  unfold execOp
  by_cases h0 : len * ti.size = 0
  · rw [h0] at hf
    have e0 : (Array.range 0).map (zs.toArray[· % zs.toArray.size]!) = (Array.range 0).map ((#[] : Array Value)[· % (#[] : Array Value).size]!) := by simp
    rw [e0] at hf
    simp [ho, Instr.buildSlice, run_underlying hund, sizeOf, typeInfo, hinfo, h0, newRow, newObj, Sem.run] at hf ⊢
    rw [hf]
    simp [newRow, newObj, Sem.run]
  · have hz := hz.resolve_left h0
    obtain ⟨hz⟩ := hz
    have hzc : z.cells = zs.toArray := by simpa [hinfo, hzero] using hz
    simp [ho, Instr.buildSlice, run_underlying hund, sizeOf, typeInfo, zeroValue, hinfo, hzero, hzc, hbig, h0, newRow, newObj, Sem.run] at hf ⊢
    simp [hf, newRow, newObj, Sem.run]

end
end Go.Proofs.Ytldmkafobbemjaa
namespace Go.Proofs.Ytldmkafobbemjaa
set_option linter.unusedSimpArgs false
set_option linter.unusedVariables false
open Go Go.RowKit

def B (b : UInt8) : Value := .int .u8 b.toNat
def bs (l : List UInt8) : List Value := l.map B
theorem bs_length (l : List UInt8) : (bs l).length = l.length := by simp [bs]
theorem bs_append (l m : List UInt8) : bs (l ++ m) = bs l ++ bs m := by simp [bs]
theorem bs_take (l : List UInt8) (n : Nat) : (bs l).take n = bs (l.take n) := by simp [bs, List.map_take]
theorem bs_drop (l : List UInt8) (n : Nat) : (bs l).drop n = bs (l.drop n) := by simp [bs, List.map_drop]
theorem bs_one (l : List UInt8) : ∀ v, v ∈ bs l → v.oneCell' = true := by
  intro v hv
  simp [bs, B] at hv
  obtain ⟨x, _, rfl⟩ := hv
  rfl
theorem B_inj {x y : UInt8} (h : B x = B y) : x = y := by
  simp [B] at h
  exact UInt8.toNat_inj.1 (by omega)
theorem bs_inj {l m : List UInt8} (h : bs l = bs m) : l = m := by
  induction l generalizing m with
  | nil => cases m with
    | nil => rfl
    | cons y m => simp [bs] at h
  | cons x l ih => cases m with
    | nil => simp [bs] at h
    | cons y m =>
      simp only [bs, List.map_cons, List.cons.injEq] at h
      rw [B_inj h.1, ih h.2]

def u64 (n : Nat) : Value := .int .u64 n
def u32 (n : Nat) : Value := .int .u32 n
def i64 (n : Int) : Value := .int .i64 n
def zb (n : Nat) : List UInt8 := List.replicate n 0
theorem zb_length (n : Nat) : (zb n).length = n := by simp [zb]

structure Cond where
  id : Nat
  side : Int
  amount : Nat
  hash : List UInt8
  expiry : Nat
def Cond.cells (c : Cond) : List Value := [.int .u64 c.id, .int .i64 c.side, .int .u64 c.amount] ++ bs c.hash ++ [.int .u64 c.expiry]
def Cond.zero : Cond := ⟨0, 0, 0, zb 32, 0⟩
structure Oop where
  kind : Int
  amount : Nat
  cond : Cond
  id : Nat
def Oop.cells (o : Oop) : List Value := [.int .i64 o.kind, .int .u64 o.amount] ++ o.cond.cells ++ [.int .u64 o.id]
def Oop.zero : Oop := ⟨0, 0, Cond.zero, 0⟩
structure LSig where
  shown : List UInt8
  other : List UInt8
def LSig.cells (l : LSig) : List Value := bs l.shown ++ bs l.other
def LSig.zero : LSig := ⟨zb 512, zb 512⟩
structure Sig where
  l : LSig
  key : Nat
  way : List (List UInt8)
def Sig.cells (s : Sig) (v : Value) : List Value := s.l.cells ++ [.int .u32 s.key, v]
def Sig.zero : Sig := ⟨LSig.zero, 0, []⟩
def wayCells (l : List (List UInt8)) : List Value := l.flatMap bs
structure Hop where
  channel : Nat
  amount : Nat
  id : Nat
def Hop.cells (h : Hop) : List Value := [.int .u32 h.channel, .int .u64 h.amount, .int .u64 h.id]
def hopCells (l : List Hop) : List Value := l.flatMap Hop.cells
structure Memo where
  kind : Int
  channel : Nat
  round : Nat
  op : Oop
  trail : List Hop
  sig : Sig
def Memo.cells (m : Memo) (tv wv : Value) : List Value := [.int .i64 m.kind, .int .u32 m.channel, .int .u64 m.round] ++ m.op.cells ++ [tv] ++ m.sig.cells wv
def Memo.zero : Memo := ⟨0, 0, 0, Oop.zero, [], Sig.zero⟩

/-! ### What is taken off bytes -/
structure PS where
  rest : List UInt8
  bad : Int
def be (l : List UInt8) : Nat := l.foldl (fun n b => n * 256 + b.toNat) 0
def PS.cut (n : Nat) (s : PS) : List UInt8 × PS :=
  if s.bad ≠ 0 then ([], s) else if s.rest.length < n then ([], ⟨[], 9⟩) else (s.rest.take n, ⟨s.rest.drop n, s.bad⟩)
def PS.num (n : Nat) (s : PS) : Nat × PS := (be (s.cut n).1, (s.cut n).2)
def pad (n : Nat) (l : List UInt8) : List UInt8 := l ++ List.replicate (n - l.length) 0
def PS.sum (s : PS) : List UInt8 × PS := (pad 32 (s.cut 32).1, (s.cut 32).2)
def PS.fail (e : Int) (s : PS) : PS := if s.bad = 0 ∧ e ≠ 0 then ⟨[], e⟩ else s
def PS.many (most : Nat) (s : PS) : Nat × PS := if most < (s.num 1).1 then (0, (s.num 1).2.fail 8) else s.num 1
def PS.fin (s : PS) : PS := if 0 < s.rest.length then s.fail 10 else s

def times {α : Type} (f : PS → α × PS) : Nat → PS → List α × PS
  | 0, s => ([], s)
  | n + 1, s => ((times f n s).1 ++ [(f (times f n s).2).1], (f (times f n s).2).2)
theorem times_zero {α : Type} (f : PS → α × PS) (s : PS) : times f 0 s = ([], s) := rfl
theorem times_succ {α : Type} (f : PS → α × PS) (n : Nat) (s : PS) : times f (n + 1) s = ((times f n s).1 ++ [(f (times f n s).2).1], (f (times f n s).2).2) := rfl
attribute [irreducible] times

def takeCond (s : PS) : Cond × PS :=
  let id := s.num 8
  let side := id.2.num 1
  let amount := side.2.num 8
  let hash := amount.2.sum
  let expiry := hash.2.num 8
  (⟨id.1, side.1, amount.1, hash.1, expiry.1⟩, if 1 < side.1 then expiry.2.fail 10 else expiry.2)

def takeOp (s : PS) : Oop × PS :=
  let kind := s.num 1
  let amount := kind.2.num 8
  let id := amount.2.num 8
  let cond := takeCond id.2
  (if cond.2.bad ≠ 0 then Oop.zero else ⟨kind.1, amount.1, cond.1, id.1⟩, cond.2)

def takeHop (s : PS) : Hop × PS :=
  let channel := s.num 4
  let amount := channel.2.num 8
  let id := amount.2.num 8
  (⟨channel.1, amount.1, id.1⟩, id.2)

def takeTrail (s : PS) : List Hop × PS :=
  let n := s.many 7
  let l := times takeHop n.1 n.2
  (if l.2.bad ≠ 0 then [] else l.1, l.2)

def takeLamp (s : PS) : LSig × PS :=
  let l := times PS.sum 32 s
  (⟨l.1.flatMap (·.take 16), l.1.flatMap (·.drop 16)⟩, l.2)

def takeSig (s : PS) : Sig × PS :=
  let key := s.num 4
  let n := key.2.many 8
  let l := takeLamp n.2
  let way := times PS.sum n.1 l.2
  (if way.2.bad ≠ 0 then Sig.zero else ⟨l.1, key.1, way.1⟩, way.2)

def Cond.eqz (c : Cond) : Bool := c.id == 0 && c.side == 0 && c.amount == 0 && c.hash == zb 32 && c.expiry == 0
def Oop.eqz (o : Oop) : Bool := o.kind == 0 && o.amount == 0 && o.cond.eqz && o.id == 0
def Memo.bare (m : Memo) : Bool := m.op.eqz && m.trail.length == 0
def Memo.unsigned (m : Memo) : Bool := m.sig.key == 0 && m.sig.way.length == 0 && (m.sig.l.shown == zb 512 && m.sig.l.other == zb 512)
def Memo.right (m : Memo) : Bool :=
  if m.kind = 0 then m.bare && m.unsigned && m.round == 0
  else if m.kind = 1 then decide (0 ≤ m.op.kind) && decide (m.op.kind ≤ 5) && decide (m.trail.length ≤ 7) && decide (m.sig.way.length ≤ 8) && (m.op.cond.side == 0 || m.op.cond.side == 1)
  else if m.kind = 2 then m.bare && decide (m.sig.way.length ≤ 8)
  else false

def readBody (kind : Nat) (channel : Nat) (s : PS) : Memo × PS :=
  if kind = 0 then (⟨kind, channel, 0, Oop.zero, [], Sig.zero⟩, s)
  else if kind = 1 then
    let round := s.num 8
    let op := takeOp round.2
    let trail := takeTrail op.2
    let sig := takeSig trail.2
    (⟨kind, channel, round.1, op.1, trail.1, sig.1⟩, sig.2)
  else if kind = 2 then
    let round := s.num 8
    let sig := takeSig round.2
    (⟨kind, channel, round.1, Oop.zero, [], sig.1⟩, sig.2)
  else (⟨kind, channel, 0, Oop.zero, [], Sig.zero⟩, s.fail 10)

/-- The memo that bytes are, and the error; where there is one, the memo is nothing. -/
def readMemo (l : List UInt8) : Memo × Int :=
  let kind := (PS.mk l 0).num 1
  let channel := kind.2.num 4
  let m := readBody kind.1 channel.1 channel.2
  let s := if m.2.bad = 0 ∧ m.1.right = false then m.2.fail 10 else m.2
  if s.fin.bad ≠ 0 then (Memo.zero, s.fin.bad) else (m.1, 0)

end Go.Proofs.Ytldmkafobbemjaa
