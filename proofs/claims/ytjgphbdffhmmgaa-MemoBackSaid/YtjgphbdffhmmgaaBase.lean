/-
  Laws of the walk over a list of known blocks: what a step of the model's memory does to such a list. Conditions: none beyond those that each theorem states.
-/
import Derived.WalkKit
import Derived.WalkSpells
import Derived.Lib.Hide
import Derived.Laws.CopyRow
import Derived.Laws.CopyOwn
import Derived.Laws.Append
import Derived.Laws.AppendOwn
import Derived.Laws.Rows
namespace Go.Proofs.Ytjgphbdffhmmgaa
set_option linter.unusedSimpArgs false
set_option linter.unusedVariables false
open Go Go.RowKit

abbrev Ent := Option (Nat × List Value × TypeId)
def Holds (w : World) (x : Ent) : Prop := ∀ g cs T, x = some (g, cs, T) → w.heap[g]? = some (.cells cs.toArray T (0, 0))
def keys (L : List Ent) : List Nat := L.filterMap (fun x => x.map (·.1))

structure St (w0 : World) (A : List Nat) (w : World) (L : List Ent) : Prop where
  os : w.os = w0.os
  tape : w.tape = w0.tape
  output : w.output = w0.output
  size : w0.heap.size ≤ w.heap.size
  keep : ∀ k, k < w0.heap.size → k ∉ A → w.heap[k]? = w0.heap[k]?
  has : ∀ x, x ∈ L → Holds w x
  nodup : (keys L).Nodup
  fresh : ∀ k, k ∈ keys L → k ∈ A ∨ w0.heap.size ≤ k

theorem mem_keys {L : List Ent} {k : Nat} : k ∈ keys L ↔ ∃ cs T, some (k, cs, T) ∈ L := by
  unfold keys
  rw [List.mem_filterMap]
  constructor
  · rintro ⟨x, hx, h⟩
    cases x with
    | none => cases h
    | some y => obtain ⟨g, cs, T⟩ := y; simp at h; subst h; exact ⟨cs, T, hx⟩
  · rintro ⟨cs, T, h⟩; exact ⟨_, h, rfl⟩

theorem lt_of_some {w : World} {g : Nat} {o : Obj} (h : w.heap[g]? = some o) : g < w.heap.size := (Array.getElem?_eq_some_iff.1 h).1

theorem St.lt {w0 w : World} {A : List Nat} {L : List Ent} (h : St w0 A w L) {k : Nat} (hk : k ∈ keys L) : k < w.heap.size := by
  obtain ⟨cs, T, hm⟩ := mem_keys.1 hk
  exact lt_of_some (h.has _ hm _ _ _ rfl)

theorem keys_append (L M : List Ent) : keys (L ++ M) = keys L ++ keys M := by simp [keys]

theorem mem_getElem? {α : Type} {L : List α} {i : Nat} {x : α} (h : L[i]? = some x) : x ∈ L := List.mem_of_getElem? h

theorem St.get {w0 w : World} {A : List Nat} {L : List Ent} (h : St w0 A w L) (i : Nat) {x : Ent} (hi : L[i]? = some x) : Holds w x := h.has x (mem_getElem? hi)

/-- The start of a call: what is known of the blocks that it may write. -/
theorem St.start (w : World) (L : List Ent) (hh : ∀ x, x ∈ L → Holds w x) (hn : (keys L).Nodup) : St w (keys L) w L :=
  ⟨rfl, rfl, rfl, Nat.le_refl _, fun _ _ _ => rfl, hh, hn, fun k hk => .inl hk⟩

theorem St.nil (w : World) : St w [] w [] := St.start w [] (fun _ h => by cases h) List.nodup_nil

theorem St.drew {w0 w : World} {A : List Nat} {L : List Ent} (h : St w0 A w L) : St w0 A w.drew L :=
  ⟨h.os, h.tape, h.output, h.size, h.keep, fun x hx => h.has x hx, h.nodup, h.fresh⟩

theorem St.alloc {w0 w : World} {A : List Nat} {L : List Ent} (h : St w0 A w L) (cs : List Value) (T : TypeId) :
    St w0 A (w.alloc (.cells cs.toArray T)) (L ++ [some (w.heap.size, cs, T)]) := by
  refine ⟨h.os, h.tape, h.output, ?_, ?_, ?_, ?_, ?_⟩
  · have := h.size; simp; omega
  · intro k hk ha
    rw [Below.heap_alloc w _ k (Nat.lt_of_lt_of_le hk h.size)]
    exact h.keep k hk ha
  · intro x hx g cs' T' e
    rcases List.mem_append.1 hx with hx | hx
    · have := h.has x hx g cs' T' e
      rw [Below.heap_alloc w _ g (lt_of_some this)]
      exact this
    · simp at hx; subst hx; cases e
      exact heap_alloc_new w _
  · rw [keys_append, List.nodup_append]
    refine ⟨h.nodup, by simp [keys], ?_⟩
    intro a ha b hb
    simp [keys] at hb
    subst hb
    have := h.lt ha
    omega
  · intro k hk
    rw [keys_append] at hk
    rcases List.mem_append.1 hk with hk | hk
    · exact h.fresh k hk
    · simp [keys] at hk; subst hk; exact .inr h.size

theorem keys_set {L : List Ent} {i : Nat} {x y : Ent} (hi : L[i]? = some x) (hk : x.map (·.1) = y.map (·.1)) : keys (L.set i y) = keys L := by
  induction L generalizing i with
  | nil => rfl
  | cons z L ih =>
    cases i with
    | zero => simp at hi; subst hi; simp [keys, List.filterMap_cons, hk]
    | succ i =>
      simp at hi
      have := ih hi
      simp [keys, List.filterMap_cons] at this ⊢
      split <;> simp [this]

theorem nodup_other {L : List Ent} {i j : Nat} {g : Nat} {cs cs' : List Value} {T T' : TypeId} (hn : (keys L).Nodup)
    (hi : L[i]? = some (some (g, cs, T))) (hj : L[j]? = some (some (g, cs', T'))) : i = j := by
  induction L generalizing i j with
  | nil => simp at hi
  | cons z L ih =>
    cases i with
    | zero =>
      cases j with
      | zero => rfl
      | succ j =>
        simp at hi hj
        subst hi
        have hn2 : (g :: keys L).Nodup := hn
        exact ((List.nodup_cons.1 hn2).1 (mem_keys.2 ⟨_, _, mem_getElem? hj⟩)).elim
    | succ i =>
      cases j with
      | zero =>
        simp at hi hj
        subst hj
        have hn2 : (g :: keys L).Nodup := hn
        exact ((List.nodup_cons.1 hn2).1 (mem_keys.2 ⟨_, _, mem_getElem? hi⟩)).elim
      | succ j =>
        simp at hi hj
        have hn' : (keys L).Nodup := by
          simp [keys, List.filterMap_cons] at hn ⊢
          split at hn
          · exact hn
          · exact (List.nodup_cons.1 hn).2
        rw [ih hn' hi hj]

/-- A block that is known is written. -/
theorem St.setRow {w0 w : World} {A : List Nat} {L : List Ent} (h : St w0 A w L) {i : Nat} {g : Nat} {cs : List Value} {T : TypeId}
    (hi : L[i]? = some (some (g, cs, T))) (cs' : List Value) : St w0 A (w.setRow g cs'.toArray) (L.set i (some (g, cs', T))) := by
  have hm := mem_getElem? hi
  have hg := h.has _ hm _ _ _ rfl
  have hk : keys (L.set i (some (g, cs', T))) = keys L := keys_set hi rfl
  have hgk : g ∈ keys L := mem_keys.2 ⟨cs, T, hm⟩
  refine ⟨h.os, h.tape, h.output, by simp; exact h.size, ?_, ?_, by rw [hk]; exact h.nodup, by rw [hk]; exact h.fresh⟩
  · intro k hlt ha
    have hne : k ≠ g := by
      rintro rfl
      rcases h.fresh k hgk with hh | hh
      · exact ha hh
      · omega
    rw [setRow_other w g k _ hne]
    exact h.keep k hlt ha
  · intro x hx k cs2 T2 e
    subst e
    obtain ⟨j, hj⟩ := List.getElem?_of_mem hx
    by_cases hij : i = j
    · subst hij
      rw [List.getElem?_set] at hj
      split at hj
      · rename_i hlt
        simp at hj
        obtain ⟨rfl, rfl, rfl⟩ := hj.2
        exact setRow_heap w g _ _ T _ hg
      · rename_i hlt; exact (hlt rfl).elim
    · rw [List.getElem?_set_ne hij] at hj
      have hne : k ≠ g := by
        rintro rfl
        exact hij (nodup_other h.nodup hi hj)
      rw [setRow_other w g k _ hne]
      exact h.has _ (mem_getElem? hj) _ _ _ rfl

/-- What is known may be forgotten, and told in another order. -/
theorem St.pick {w0 w : World} {A : List Nat} {L : List Ent} (h : St w0 A w L) (is : List Nat) {L' : List Ent}
    (hL : is.filterMap (fun i => L[i]?) = L') (hn : is.Nodup) : St w0 A w L' := by
  have hsub : ∀ x, x ∈ L' → x ∈ L := by
    intro x hx
    rw [← hL, List.mem_filterMap] at hx
    obtain ⟨i, _, hi⟩ := hx
    exact mem_getElem? hi
  refine ⟨h.os, h.tape, h.output, h.size, h.keep, fun x hx => h.has x (hsub x hx), ?_, ?_⟩
  · subst hL
    clear hsub
    induction is with
    | nil => exact List.nodup_nil
    | cons i is ih =>
      have hn' := List.nodup_cons.1 hn
      have ih' := ih hn'.2
      simp only [List.filterMap_cons]
      cases hi : L[i]? with
      | none => exact ih'
      | some x =>
        cases x with
        | none => simpa [keys] using ih'
        | some y =>
          obtain ⟨g, cs, T⟩ := y
          simp only [keys, List.filterMap_cons, Option.map_some]
          refine List.nodup_cons.2 ⟨?_, ih'⟩
          intro hm
          obtain ⟨cs', T', hm'⟩ := mem_keys.1 hm
          rw [List.mem_filterMap] at hm'
          obtain ⟨j, hj, hj'⟩ := hm'
          have := nodup_other h.nodup hi hj'
          subst this
          exact hn'.1 hj
  · intro k hk
    obtain ⟨cs, T, hm⟩ := mem_keys.1 hk
    exact h.fresh k (mem_keys.2 ⟨cs, T, hsub _ hm⟩)

/-- A callee that may write one known block (or none, where there is no block), and leaves new ones behind. -/
theorem St.call1 {w0 w w' : World} {A : List Nat} {L N : List Ent} (h : St w0 A w L) (i : Nat) {x x' : Ent} (hi : L[i]? = some x)
    (hc : St w (keys [x]) w' (x' :: N)) : St w0 A w' (L.set i x' ++ N) := by
  have hxk : ∀ k, k ∈ keys [x] → k ∈ keys L := by
    intro k hk
    obtain ⟨cs, T, hm⟩ := mem_keys.1 hk
    simp at hm
    exact mem_keys.2 ⟨cs, T, hm ▸ mem_getElem? hi⟩
  have hset : ∀ y, y ∈ L.set i x' → y = x' ∨ ∃ j, j ≠ i ∧ L[j]? = some y := by
    intro y hy
    obtain ⟨j, hj⟩ := List.getElem?_of_mem hy
    by_cases hij : i = j
    · subst hij
      rw [List.getElem?_set] at hj
      simp at hj
      exact .inl hj.2.symm
    · rw [List.getElem?_set_ne hij] at hj
      exact .inr ⟨j, fun e => hij e.symm, hj⟩
  have hothers : ∀ j y, j ≠ i → L[j]? = some y → ∀ k, y.map (·.1) = some k → k ∉ keys [x] := by
    intro j y hj hy k hk hkx
    obtain ⟨cs, T, hm⟩ := mem_keys.1 hkx
    simp at hm
    cases y with
    | none => cases hk
    | some z =>
      obtain ⟨g, cs2, T2⟩ := z
      simp at hk
      subst hk
      exact hj (nodup_other h.nodup hy (by rw [hi, hm]))
  refine ⟨hc.os.trans h.os, hc.tape.trans h.tape, hc.output.trans h.output, Nat.le_trans h.size hc.size, ?_, ?_, ?_, ?_⟩
  · intro k hk ha
    rw [hc.keep k (Nat.lt_of_lt_of_le hk h.size) ?_]
    · exact h.keep k hk ha
    · intro hx
      rcases h.fresh k (hxk k hx) with hh | hh
      · exact ha hh
      · omega
  · intro y hy g cs T e
    rcases List.mem_append.1 hy with hy | hy
    · rcases hset y hy with rfl | ⟨j, hj, hjy⟩
      · exact hc.has _ (by simp) g cs T e
      · have hh := h.has y (mem_getElem? hjy) g cs T e
        rw [hc.keep g (lt_of_some hh) (hothers j y hj hjy g (by rw [e]; rfl))]
        exact hh
    · exact hc.has _ (by simp [hy]) g cs T e
  · -- nodup
    have hcn := hc.nodup
    have key : ∀ (M : List Ent) (i : Nat), M[i]? = some x → (keys M).Nodup → (∀ k, k ∈ keys M → k < w.heap.size) → (keys (M.set i x' ++ N)).Nodup := by
      intro M
      induction M with
      | nil => intro i hi; simp at hi
      | cons z M ih =>
        intro i hi hn hlt
        have hc1 : (keys (x' :: N)).Nodup := hcn
        have hN : (keys N).Nodup := by
          simp only [keys, List.filterMap_cons] at hc1 ⊢
          split at hc1
          · exact hc1
          · exact (List.nodup_cons.1 hc1).2
        have hnM : (keys M).Nodup := by
          simp only [keys, List.filterMap_cons] at hn ⊢
          split at hn
          · exact hn
          · exact (List.nodup_cons.1 hn).2
        have hltM : ∀ k, k ∈ keys M → k < w.heap.size := by
          intro k hk
          apply hlt
          obtain ⟨cs, T, hm⟩ := mem_keys.1 hk
          exact mem_keys.2 ⟨cs, T, by simp [hm]⟩
        have hzM : ∀ g, z.map (·.1) = some g → g ∉ keys M := by
          intro g hg hm
          cases z with
          | none => cases hg
          | some y =>
            simp at hg
            simp only [keys, List.filterMap_cons, Option.map_some] at hn
            exact (List.nodup_cons.1 hn).1 (by rw [hg]; exact hm)
        cases i with
        | zero =>
          simp at hi
          subst hi
          simp only [List.set_cons_zero, List.cons_append]
          have hx'fresh : ∀ g, x'.map (·.1) = some g → g ∈ keys [z] ∨ w.heap.size ≤ g := by
            intro g hg
            apply hc.fresh
            cases x' with
            | none => cases hg
            | some y => simp at hg; subst hg; simp [keys]
          have hNfresh : ∀ g, g ∈ keys N → g ∉ keys M := by
            intro g hg hm
            have hl := hltM g hm
            have hf := hc.fresh g (by obtain ⟨cs, T, hm⟩ := mem_keys.1 hg; exact mem_keys.2 ⟨cs, T, by simp [hm]⟩)
            rcases hf with hf | hf
            · obtain ⟨cs, T, hm'⟩ := mem_keys.1 hf
              simp at hm'
              exact hzM g (by rw [← hm']; rfl) hm
            · omega
          have hMN : (keys (M ++ N)).Nodup := by
            rw [keys_append, List.nodup_append]
            exact ⟨hnM, hN, fun a ha b hb e => hNfresh b hb (e ▸ ha)⟩
          cases hx' : x' with
          | none => simpa [keys] using hMN
          | some y =>
            simp only [keys, List.filterMap_cons, Option.map_some]
            refine List.nodup_cons.2 ⟨?_, hMN⟩
            intro hm
            change y.1 ∈ keys (M ++ N) at hm
            rw [keys_append] at hm
            rcases List.mem_append.1 hm with hm | hm
            · rcases hx'fresh y.1 (by rw [hx']; rfl) with hf | hf
              · obtain ⟨cs, T, hm'⟩ := mem_keys.1 hf
                simp at hm'
                exact hzM y.1 (by rw [← hm']; rfl) hm
              · have := hltM _ hm; omega
            · rw [hx'] at hc1
              simp only [keys, List.filterMap_cons, Option.map_some] at hc1
              exact (List.nodup_cons.1 hc1).1 hm
        | succ i =>
          simp at hi
          simp only [List.set_cons_succ, List.cons_append]
          have ih' := ih i hi hnM hltM
          cases hz : z with
          | none => simpa [keys] using ih'
          | some y =>
            simp only [keys, List.filterMap_cons, Option.map_some]
            refine List.nodup_cons.2 ⟨?_, ih'⟩
            intro hm
            change y.1 ∈ keys (M.set i x' ++ N) at hm
            have hyM := hzM y.1 (by rw [hz]; rfl)
            have hylt : y.1 < w.heap.size := hlt y.1 (by rw [hz]; simp [keys])
            have hyx : y.1 ∉ keys [x] := by
              intro hk
              obtain ⟨cs, T, hm'⟩ := mem_keys.1 hk
              simp at hm'
              exact hyM (mem_keys.2 ⟨cs, T, hm' ▸ mem_getElem? hi⟩)
            have hyc : y.1 ∉ keys (x' :: N) := by
              intro hk
              rcases hc.fresh _ hk with hf | hf
              · exact hyx hf
              · omega
            rw [keys_append] at hm
            rcases List.mem_append.1 hm with hm | hm
            · obtain ⟨cs, T, hm'⟩ := mem_keys.1 hm
              rcases List.mem_or_eq_of_mem_set hm' with hm' | hm'
              · exact hyM (mem_keys.2 ⟨cs, T, hm'⟩)
              · exact hyc (mem_keys.2 ⟨cs, T, by simp [hm']⟩)
            · obtain ⟨cs, T, hm'⟩ := mem_keys.1 hm
              exact hyc (mem_keys.2 ⟨cs, T, by simp [hm']⟩)
    exact key L i hi h.nodup (fun k hk => h.lt hk)
  · intro k hk
    rw [keys_append] at hk
    have fromC : k ∈ keys (x' :: N) → k ∈ A ∨ w0.heap.size ≤ k := by
      intro hk
      rcases hc.fresh k hk with hf | hf
      · exact h.fresh k (hxk k hf)
      · exact .inr (Nat.le_trans h.size hf)
    rcases List.mem_append.1 hk with hk | hk
    · obtain ⟨cs, T, hm'⟩ := mem_keys.1 hk
      rcases List.mem_or_eq_of_mem_set hm' with hm' | hm'
      · exact h.fresh k (mem_keys.2 ⟨cs, T, hm'⟩)
      · exact fromC (mem_keys.2 ⟨cs, T, by simp [hm']⟩)
    · obtain ⟨cs, T, hm'⟩ := mem_keys.1 hk
      exact fromC (mem_keys.2 ⟨cs, T, by simp [hm']⟩)

theorem St.addNone {w0 w : World} {A : List Nat} {L : List Ent} (h : St w0 A w L) : St w0 A w (L ++ [none]) :=
  ⟨h.os, h.tape, h.output, h.size, h.keep, (fun x hx => by
      rcases List.mem_append.1 hx with hx | hx
      · exact h.has x hx
      · simp at hx; subst hx; intro g cs T e; cases e), by simpa [keys] using h.nodup, fun k hk => h.fresh k (by simpa [keys] using hk)⟩

/-- A callee that writes nothing that was there. -/
theorem St.call0 {w0 w w' : World} {A : List Nat} {L N : List Ent} (h : St w0 A w L) (hc : St w [] w' N) : St w0 A w' (L ++ N) := by
  have h1 : St w0 A w (none :: L) := ⟨h.os, h.tape, h.output, h.size, h.keep, fun x hx => by
      rcases List.mem_cons.1 hx with rfl | hx
      · intro g cs T e; cases e
      · exact h.has x hx, by simpa [keys] using h.nodup, fun k hk => h.fresh k (by simpa [keys] using hk)⟩
  have h2 : St w (keys [none]) w' (none :: N) := ⟨hc.os, hc.tape, hc.output, hc.size, hc.keep, fun x hx => by
      rcases List.mem_cons.1 hx with rfl | hx
      · intro g cs T e; cases e
      · exact hc.has x hx, by simpa [keys] using hc.nodup, fun k hk => hc.fresh k (by simpa [keys] using hk)⟩
  have h3 := h1.call1 0 (x := none) (x' := none) rfl h2
  exact ⟨h3.os, h3.tape, h3.output, h3.size, h3.keep, fun x hx => h3.has x (List.mem_cons_of_mem _ hx), h3.nodup, h3.fresh⟩

end Go.Proofs.Ytjgphbdffhmmgaa
