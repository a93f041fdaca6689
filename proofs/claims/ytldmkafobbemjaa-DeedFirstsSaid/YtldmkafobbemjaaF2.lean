/-
  DeedFirsts (tollhouselaw13): for every roots and every two channels the law returns true, and all read afterwards as they read before. Conditions: none. (The row's part is the kit's shell, as its skeleton writer printed it for other kinds, turned to a struct of roots and two numbers; the walk is filled in.)
-/
import Derived.Test.YtldmkafobbemjaaF1
import Derived.Test.YtldmkafobbemjaaC7
import Derived.Test.YtldmkafobbemjaaRows
import Derived.WalkKit
import Derived.ProofKit
import Derived.OpenShut
import Derived.ShutString
import Derived.ChangeOld
import Derived.Below
namespace Go.Proofs.Ytldmkafobbemjaa
set_option linter.unusedSimpArgs false
set_option linter.unusedVariables false
open Go Go.RowKit Go.ChangeShapes Go.Deep
set_option maxRecDepth 100000
theorem o_2arr32 : OTy Try.prog 23 (rep8 64) := by
  have := oty_array (n := 2) Try.underlying23 o_arr32 (by rw [rep8_len]; kernel_rfl)
  rwa [rep8_flat] at this
theorem o_roots : OTy Try.prog 25 (rep8 64 ++ ([.i64] ++ [])) :=
  oty_struct Try.underlying25 (.cons rfl o_2arr32 (.cons (by simp [rep8_len]) o_int .nil)) (by simp only [List.length_append, rep8_len]; kernel_rfl)
theorem open_roots {H : Type} {enc : TypeId × Value → H} {w : World} {held : Bool} {fuel : Nat} {cs : List Value} {x : DataW H × List MemPlace} (h : DataW.trod enc Try.prog w 0 (fun _ => true) held fuel 25 cs = some x) :
    ∃ (kb : List UInt8) (t : Int), cs = rootsCells kb t ∧ kb.length = 64 := by
  obtain ⟨h1, h2⟩ := LikeW.split _ _ _ (o_roots.opens _ _ _ _ _ _ _ _ h)
  rw [rep8_len] at h1 h2
  obtain ⟨kb, hk, e1⟩ := likeW_bs 64 _ h1
  obtain ⟨n, cs', e2, _, h3⟩ := h2.uncons
  have h4 := h3.nil_eq
  subst h4
  exact ⟨kb, n, by rw [rootsCells, ← e1, ← e2, List.take_append_drop], hk⟩
end Go.Proofs.Ytldmkafobbemjaa
namespace Go.Proofs.Ytldmkafobbemjaa.deedFirsts
open Go.ChangeShapes Go.WideShapes Go.ChangeAt Go.RowKit
open Go.ChangeMaps (open_string shut_string)

theorem own : ownKnob Try.prog.godebug = none := by kernel_rfl
theorem laidOut : laidOutB Try.prog = true := by kernel_rfl

theorem walk (kb : List UInt8) (hk : kb.length = 64) (t a1 a2 : Int) (w : World) (w1 : (Lit.int .u32 a1).wf = true) (w2 : (Lit.int .u32 a2).wf = true) :
    Calls Try.prog 3 #[.agg (rootsCells kb t).toArray, .int .u32 a1, .int .u32 a2] w fun e w' => e = .returned (.bool true) ∧ Below w.heap.size w w' := by
  obtain ⟨ch, rfl, h1⟩ := wf_u32 w1
  obtain ⟨ot, rfl, h2⟩ := wf_u32 w2
  refine (deedFirsts_ok kb hk t ch ot h1 w).mono ?_
  rintro e w' ⟨rfl, hS⟩
  exact ⟨rfl, hS.below⟩

/-! ### THE ROW's STEP -/
set_option maxRecDepth 100000 in
theorem lifted (os : Os) (started : os.Started) (H : Type) (enc : TypeId × Value → H) :
    ReturnsInHanded {} Try.checked os 3 .any (Rows.deedFirstsSpec.pre6 enc Try.prog Try.f3 Rows.deedFirstsRow.domain false) (Rows.deedFirstsSpec.post enc Try.prog Try.f3 false true false false) := by
  refine returnsInHanded_of_change (C := Try.checked) own started (by kernel_rfl) Try.func3
    (ChangeSpec.witness6 (enc := enc) (C := Try.checked) false ⟨#[], #[.agg noRoots.toArray, .int .u32 0, .int .u32 0], []⟩ 12 (by kernel_rfl) (by kernel_rfl) (by kernel_rfl) (by kernel_rfl)) ?_
  intro W base args ds gs before hval0 hW hcnd _
  have hval : ∀ (j : Nat) t v, Try.f3.params[j]? = some t → args[j]? = some v → Value.okWide Try.prog W .any base t v := hval0
  have hW' := hW
  obtain ⟨p, q, hA0, hV, rfl, hfz, hnd⟩ := hW
  have hA : DataW.TrodAll enc Try.prog W 0 (fun _ => true) true Try.f3.params.toList args.toList ds p := hA0
  rw [Try.params3] at hA hval
  obtain ⟨v0, vs0, d0, ds0, p0, q0, hargs, rfl, rfl, h0, r0⟩ := trodAll_cons hA
  obtain ⟨v1, vs1, d1, ds1, p1, q1, rfl, rfl, rfl, h1, r1⟩ := trodAll_cons r0
  obtain ⟨v2, vs2, d2, ds2, p2, q2, rfl, rfl, rfl, h2, r2⟩ := trodAll_cons r1
  obtain ⟨rfl, rfl, rfl⟩ := trodAll_nil r2
  obtain rfl : args = #[v0, v1, v2] := by cases args; simp_all
  obtain ⟨rfl, rfl⟩ := trodVars_none hV
  obtain ⟨ca, rfl, _⟩ := okWide_struct Try.underlying25 (hval 0 25 v0 rfl rfl)
  have k0 := h0
  have lt0 : ∀ x ∈ p0, x.block < W.heap.size := by obtain ⟨m, hm⟩ := k0; exact DataW.trod_lt m _ _ _ hm
  obtain ⟨kb, t, rfl, hk⟩ : ∃ (kb : List UInt8) (t : Int), ca = (rootsCells kb t).toArray ∧ kb.length = 64 := by
    obtain ⟨fuel, hf⟩ := h0
    obtain ⟨kb, t, e, h⟩ := open_roots (cs := ca.toList) hf
    exact ⟨kb, t, by rw [← e], h⟩
  obtain ⟨a1, rfl, rfl, rfl, w1⟩ := open_int Try.underlying26 (hval 1 26 v1 rfl rfl) h1
  obtain ⟨a2, rfl, rfl, rfl, w2⟩ := open_int Try.underlying26 (hval 2 26 v2 rfl rfl) h2
  clear hA0 hval0
  refine (walk kb hk t a1 a2 W w1 w2).mono fun e W' ⟨he, bel⟩ => ?_
  subst he
  exact ⟨_, rfl, _, _, _, [], _, [], hW', trodAll_mk1 (shut_bool Try.underlying4 _), (trodAll_cons_mk (Below.trod laidOut (by kernel_rfl) (of_decide_eq_true (by kernel_rfl)) k0 bel lt0) (trodAll_cons_mk (shut_int Try.underlying26 w1) (trodAll_cons_mk (shut_int Try.underlying26 w2) trodAll_mk0))), rfl, bel.frame _, fun h => by cases h⟩

theorem over : Rows.deedFirstsRow.holds Try.pinned (OpenSpec.ofChange Rows.deedFirstsSpec) :=
  OpenClaim.holds_of_wide 3 Try.f3 rfl rfl rfl rfl rfl rfl rfl ⟨rfl, rfl, rfl, rfl, rfl⟩ rfl rfl rfl rfl rfl (by kernel_rfl) Try.func3 (by kernel_rfl)
    (of_decide_eq_true (by kernel_rfl)) (by unfold Func.isWrapper; first | (rw [if_pos (by decide +kernel)]; kernel_rfl) | (rw [if_neg (by decide +kernel)]; exact ⟨rfl, rfl⟩))
    (fun os started H enc _ => lifted os started H enc)

/-- ████ THE STATEMENT ████ -/
theorem proved : Rows.DeedFirstsSaid := over
#print axioms proved
end Go.Proofs.Ytldmkafobbemjaa.deedFirsts
