/-
  Regions that draw their order under a condition on the world: steps as the generator prints them.
-/
import Derived.Test.YtjgphbdffhmmgaaFill
import Derived.Deep.RegionHeld
namespace Go.Proofs.Ytjgphbdffhmmgaa
set_option linter.unusedSimpArgs false
set_option linter.unusedVariables false
open Go Go.RowKit
set_option maxRecDepth 100000

section
variable {P : Program} {ops : Array Oper} {Q : Exit → Act → World → Prop} {md : Region.Mode} {S : World → Prop} {a : Act} {w : World} {o : Oper}

theorem htake {i : Nat} {v : Value} {fuel : Nat} {listed : Array Bool} (hi : ops.toList[i]? = some o)
    (hs : Region.noSelect ops = true) (hf : Region.free md ops listed i = true) (hr : (Region.ready md ops listed).contains i = true)
    (hQ : ∀ c a w, Q (.panic c) (a.put o.dst v) w → Q (.panic c) a w) (hy : YieldsIf P ops S o v a) (hS : S w)
    (h : wpAnyH P md ops Q S fuel (listed.setIfInBounds i true) (a.put o.dst v) w) : wpAnyH P md ops Q S (fuel + 1) listed a w :=
  wpAnyH_take (oi := o) (by simpa using hi) hs hf hr hQ hy hS h

theorem hcons {fuel : Nat} {listed : Array Bool} {i : Nat} {rs : List Nat} (ho : ops.toList[i]? = some o) (hw : Region.wanted o (yielded ops a.tmps) = true)
    (h : ∀ K' : Act → World → Prop, Shut (∀ a w, S w → (S w → wpAnyH P md ops Q S fuel (listed.setIfInBounds i true) a w) → K' a w) → Oper.wp P o a w K' Q)
    (hs : AllReadyH P md ops Q S fuel listed a w rs) : AllReadyH P md ops Q S fuel listed a w (i :: rs) :=
  AllReadyH.cons (o := o) (by simpa using ho) (fun K' hK => by rw [if_pos hw]; exact h K' hK) hs
end

theorem Holds.cell {w : World} {g : Nat} {cs : List Value} {T : TypeId} (h : Holds w (some (g, cs, T))) (j : Nat) {v : Value} (hv : cs[j]? = some v) : w.cell? ⟨g, j, none⟩ = some v := by
  rw [cell_row (h g cs T rfl)]
  simpa using hv

theorem St.apart {w0 w : World} {A : List Nat} {L : List Ent} (hS : St w0 A w L) (i j : Nat) {x : Ent} (hi : L[i]? = some x) {g : Nat} {cs : List Value} {T : TypeId} (hj : L[j]? = some (some (g, cs, T))) (hij : i ≠ j) {n cap : Nat} :
    ∀ ad m c, Value.slice (some ⟨g, 0, none⟩) n cap = .slice (some ad) m c → ad.block ∉ keys [x] := by
  intro ad m c e
  simp only [Value.slice.injEq, Option.some.injEq] at e
  obtain ⟨rfl, _⟩ := e
  cases x with
  | none => simp [keys]
  | some y =>
    obtain ⟨g', cs', T'⟩ := y
    simp only [keys, List.filterMap_cons, Option.map_some, List.filterMap_nil, List.mem_singleton]
    rintro rfl
    exact hij (nodup_other hS.nodup hi hj)

end Go.Proofs.Ytjgphbdffhmmgaa
