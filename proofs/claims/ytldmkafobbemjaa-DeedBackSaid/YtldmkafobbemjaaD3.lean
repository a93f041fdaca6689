/-
  DeedBack (tollhouselaw13): for every deed and every wish the law returns true, and both read afterwards as they read before. Conditions: none. (The row's part began as the kit's shell for a row, turned to a deed and a wish; the walk is filled in.)
-/
import Derived.Test.YtldmkafobbemjaaD2
import Derived.Test.YtldmkafobbemjaaC7
import Derived.Test.YtldmkafobbemjaaRows
import Derived.WalkKit
import Derived.ProofKit
import Derived.OpenShut
import Derived.ShutString
import Derived.ChangeOld
import Derived.Below
namespace Go.Proofs.Ytldmkafobbemjaa
set_option linter.unusedSimpArgs false
set_option linter.unusedVariables false
open Go Go.RowKit Go.ChangeShapes Go.Deep
set_option maxRecDepth 100000
set_option maxHeartbeats 1000000

instance : Inhabited Cond := ⟨Cond.zero⟩
theorem open_conds {H : Type} {enc : TypeId × Value → H} {w : World} {held : Bool} {fuel : Nat} {cs : List Value} {x : DataW H × List MemPlace} (h : DataW.trod enc Try.prog w 0 (fun _ => true) held fuel 57 cs = some x) :
    ∃ (a : Option Addr) (c : Nat) (l : List Cond), cs = [.slice a l.length c] ∧ (∀ y, y ∈ l → y.Num) ∧ RowR w 36 (.slice a l.length c) l.length (condCells l) := by
  obtain ⟨a, len, c, F, rfl, h1, h2⟩ := open_rows Try.underlying57 o_cond (by rw [kCond_len]; omega) h
  rw [kCond_len] at h2
  obtain ⟨f, hf⟩ := choose_lt (α := Cond) (n := len) (p := fun i y => F i = y.cells ∧ y.Num) (fun i hi => by
    obtain ⟨y, e, hy, b1, b2, b3⟩ := likeW_cond _ (h1 i hi)
    exact ⟨y, e, hy, b1, b2, b3⟩)
  have hl : ((List.range len).map f).length = len := by simp
  have hc : condCells ((List.range len).map f) = (List.range len).flatMap F := by
    unfold condCells
    rw [List.flatMap_map]
    refine flatMap_cong2 ?_
    intro i hi
    exact (hf i (List.mem_range.1 hi)).1.symm
  refine ⟨a, c, (List.range len).map f, by rw [hl], ?_, ?_⟩
  · intro y hy
    obtain ⟨i, hi, rfl⟩ := List.mem_map.1 hy
    exact (hf i (List.mem_range.1 hi)).2
  · rw [hl, hc]; exact h2

theorem o_two : OTy Try.prog 28 ([.u64] ++ ([.u64] ++ [])) := by
  have := oty_array (n := 2) Try.underlying28 o_u64 (by kernel_rfl)
  exact this
theorem likeW_two (cs : List Value) (h : LikeW ([.u64] ++ ([.u64] ++ [])) cs) : ∃ a b : Nat, cs = [.int .u64 a, .int .u64 b] ∧ a < 2 ^ 64 ∧ b < 2 ^ 64 := by
  obtain ⟨n1, cs, rfl, w1, h⟩ := h.uncons
  obtain ⟨n2, cs, rfl, w2, h⟩ := h.uncons
  have h5 := h.nil_eq
  subst h5
  obtain ⟨k1, rfl, b1⟩ := wf_u64 w1
  obtain ⟨k2, rfl, b2⟩ := wf_u64 w2
  exact ⟨k1, k2, rfl, b1, b2⟩

structure State.Wide (s : State) : Prop where
  channel : s.channel < 2 ^ 32
  round : s.round < 2 ^ 64
  m0 : s.m0 < 2 ^ 64
  m1 : s.m1 < 2 ^ 64
  t0 : s.t0 < 2 ^ 64
  t1 : s.t1 < 2 ^ 64
  conds : ∀ c, c ∈ s.conds → c.Num
theorem open_state {H : Type} {enc : TypeId × Value → H} {w : World} {held : Bool} {fuel : Nat} {cs : List Value} {x : DataW H × List MemPlace} (h : DataW.trod enc Try.prog w 0 (fun _ => true) held fuel 59 cs = some x) :
    ∃ (s : State) (a : Option Addr) (c : Nat), cs = s.cells (.slice a s.conds.length c) ∧ s.Wide ∧ RowR w 36 (.slice a s.conds.length c) s.conds.length (condCells s.conds) := by
  obtain ⟨xs, n, _, _, hl, hn, hx⟩ := DataW.trod_struct Try.underlying59 h
  have hn5 : xs.length = 5 := hn
  rw [show Try.prog.cellsOf 59 = 7 by kernel_rfl] at hl
  have g0 := hx 0 _ rfl
  have g1 := hx 1 _ rfl
  have g2 := hx 2 _ rfl
  have g3 := hx 3 _ rfl
  have g4 := hx 4 _ rfl
  rw [List.getElem?_eq_getElem (by omega)] at g0 g1 g2 g3 g4
  simp only [List.getElem_toArray, List.getElem_cons_succ, List.getElem_cons_zero] at g0 g1 g2 g3 g4
  rw [o_u32.cells] at g0
  rw [o_u64.cells] at g1
  rw [o_two.cells] at g2 g3
  rw [show Try.prog.cellsOf 57 = 1 by kernel_rfl] at g4
  obtain ⟨ch, e0, _, hch⟩ := DataW.trod_int Try.underlying26 g0
  obtain ⟨r, e1, _, hr⟩ := DataW.trod_int Try.underlying27 g1
  obtain ⟨m0, m1, e2, hm0, hm1⟩ := likeW_two _ (o_two.opens _ _ _ _ _ _ _ _ g2)
  obtain ⟨t0, t1, e3, ht0, ht1⟩ := likeW_two _ (o_two.opens _ _ _ _ _ _ _ _ g3)
  obtain ⟨a, c, l, e4, hl4, hrow⟩ := open_conds g4
  obtain ⟨ch', rfl, hch'⟩ := wf_u32 hch
  obtain ⟨r', rfl, hr'⟩ := wf_u64 hr
  refine ⟨⟨ch', r', m0, m1, t0, t1, l⟩, a, c, ?_, ⟨hch', hr', hm0, hm1, ht0, ht1, hl4⟩, hrow⟩
  have d0 := cut_at cs _ _ e0
  have d1 := cut_at cs _ _ e1
  have d2 := cut_at cs _ _ e2
  have d3 := cut_at cs _ _ e3
  have d4 := cut_at cs _ _ e4
  have d5 : cs.drop 7 = [] := List.drop_eq_nil_of_le (by omega)
  simp only [List.length_cons, List.length_nil, List.length_append, Nat.zero_add, Nat.reduceAdd] at d0 d1 d2 d3 d4
  rw [List.drop_zero] at d0
  rw [d0, d1, d2, d3, d4, d5]
  rfl

theorem open_sigs {H : Type} {enc : TypeId × Value → H} {w : World} {held : Bool} {fuel : Nat} {cs : List Value} {x : DataW H × List MemPlace} (h : DataW.trod enc Try.prog w 0 (fun _ => true) held fuel 67 cs = some x) :
    ∃ (s t : Sig) (a : Option Addr) (c : Nat) (a' : Option Addr) (c' : Nat), cs = s.cells (.slice a s.way.length c) ++ t.cells (.slice a' t.way.length c') ∧ (s.Fit ∧ s.key < 2 ^ 32 ∧ RowR w 32 (.slice a s.way.length c) s.way.length (wayCells s.way)) ∧
      (t.Fit ∧ t.key < 2 ^ 32 ∧ RowR w 32 (.slice a' t.way.length c') t.way.length (wayCells t.way)) := by
  obtain ⟨xs, m, _, _, hl, hn, hx⟩ := DataW.trod_array Try.underlying67 h
  rw [show Try.prog.cellsOf 67 = 2052 by kernel_rfl] at hl
  have g0 := hx 0 (by omega)
  have g1 := hx 1 (by omega)
  rw [List.getElem?_eq_getElem (by omega), show Try.prog.cellsOf 66 = 1026 by kernel_rfl] at g0 g1
  obtain ⟨s, a, c, e0, h1⟩ := open_sig g0
  obtain ⟨t, a', c', e1, h2⟩ := open_sig g1
  refine ⟨s, t, a, c, a', c', ?_, h1, h2⟩
  have d0 := cut_at cs _ _ e0
  have d1 := cut_at cs _ _ e1
  have d2 : cs.drop 2052 = [] := List.drop_eq_nil_of_le (by omega)
  rw [show 0 * 1026 = 0 by omega, List.drop_zero, show 0 + 1026 = 1 * 1026 by omega] at d0
  rw [show 1 * 1026 + 1026 = 2052 by omega, d2, List.append_nil] at d1
  rw [d0, d1]

theorem open_deed {H : Type} {enc : TypeId × Value → H} {w : World} {held : Bool} {fuel : Nat} {cs : List Value} {x : DataW H × List MemPlace} (h : DataW.trod enc Try.prog w 0 (fun _ => true) held fuel 69 cs = some x) :
    ∃ (d : Deed) (a0 : Option Addr) (c0 : Nat) (a1 : Option Addr) (c1 : Nat) (a2 : Option Addr) (c2 : Nat), cs = d.cells (.slice a0 d.s.conds.length c0) (.slice a1 d.a.way.length c1) (.slice a2 d.b.way.length c2) ∧ d.Wide ∧
      BackRows w d (.slice a0 d.s.conds.length c0) (.slice a1 d.a.way.length c1) (.slice a2 d.b.way.length c2) := by
  obtain ⟨xs, n, _, _, hl, hn, hx⟩ := DataW.trod_struct Try.underlying69 h
  have hn2 : xs.length = 2 := hn
  rw [show Try.prog.cellsOf 69 = 2059 by kernel_rfl] at hl
  have g0 := hx 0 _ rfl
  have g1 := hx 1 _ rfl
  rw [List.getElem?_eq_getElem (by omega)] at g0 g1
  simp only [List.getElem_toArray, List.getElem_cons_succ, List.getElem_cons_zero] at g0 g1
  rw [show Try.prog.cellsOf 59 = 7 by kernel_rfl] at g0
  rw [show Try.prog.cellsOf 67 = 2052 by kernel_rfl] at g1
  obtain ⟨s, a0, c0, e0, hs, hr0⟩ := open_state g0
  obtain ⟨a, b, a1, c1, a2, c2, e1, ha, hb⟩ := open_sigs g1
  refine ⟨⟨s, a, b⟩, a0, c0, a1, c1, a2, c2, ?_, ⟨hs.channel, hs.round, hs.m0, hs.m1, hs.t0, hs.t1, hs.conds, ha.1, hb.1, ha.2.1, hb.2.1⟩, hr0, ha.2.2, hb.2.2⟩
  have d0 := cut_at cs _ _ e0
  have d1 := cut_at cs _ _ e1
  have d2 : cs.drop 2059 = [] := List.drop_eq_nil_of_le (by omega)
  rw [List.drop_zero, show 0 + 7 = 7 from rfl] at d0
  rw [show 7 + 2052 = 2059 from rfl, d2, List.append_nil] at d1
  rw [d0, d1, Deed.cells, List.append_assoc]

theorem okRow_lin {P : Program} {w : World} {t : TypeId} {cs : Array Value} {ts : List TypeId} (hts : P.cellTypes P.depth t = some ts) (hl : cs.size = ts.length)
    (h : (List.zip cs.toList ts).all (fun x => Cell.okWideB P w x.2 x.1) = true) : Cell.okWideRowB P w t cs = true := by
  unfold Cell.okWideRowB
  simp only [hts, hl, Nat.mod_self, beq_self_eq_true, Bool.true_and, List.all_eq_true, List.mem_range] at h ⊢
  intro i hi
  rw [Nat.mod_eq_of_lt hi]
  have hi2 : i < cs.size := by omega
  rw [Array.getElem?_eq_getElem hi2, List.getElem?_eq_getElem hi]
  simp only
  refine h (cs[i], ts[i]) ?_
  refine List.mem_iff_getElem.2 ⟨i, ?_, ?_⟩
  · simp only [List.length_zip, Array.length_toList]; omega
  · simp [List.getElem_zip]

theorem okInput2 {P : Program} {w : World} {f : FuncId} {fn : Func} {t0 t1 : TypeId} {v0 v1 : Value} (hf : P.funcs[f]? = some fn) (hi : (P.inits.idxOf? f).isNone = true) (hb : fn.body.isSome = true) (ho : fn.ours = false) (hn : fn.nfree = 0)
    (hp : fn.params = #[t0, t1]) (h0 : Value.okWideB P w t0 v0 = true) (h1 : Value.okWideB P w t1 v1 = true) : Input.okWideB P w f ⟨#[], #[v0, v1], []⟩ = true := by
  have e : List.range 2 = [0, 1] := rfl
  unfold Input.okWideB
  simp [hf, hi, hb, ho, hn, hp, h0, h1, e]

def backArgs : Array Value := #[.agg (Deed.zero.cells (.slice none 0 0) (.slice none 0 0) (.slice none 0 0)).toArray, .agg Oop.zero.cells.toArray]
theorem back_deed (w : World) : Value.okWideB Try.prog w 69 (.agg (Deed.zero.cells (.slice none 0 0) (.slice none 0 0) (.slice none 0 0)).toArray) = true := by
  have h : Cell.okWideRowB Try.prog w 69 (Deed.zero.cells (.slice none 0 0) (.slice none 0 0) (.slice none 0 0)).toArray = true :=
    okRow_lin (ts := (Try.prog.cellTypes Try.prog.depth 69).getD []) (by kernel_rfl) (by kernel_rfl) (by kernel_rfl)
  have hs : ((Deed.zero.cells (.slice none 0 0) (.slice none 0 0) (.slice none 0 0)).toArray.size == Try.prog.cellsOf 69) = true := by kernel_rfl
  unfold Value.okWideB
  rw [Try.underlying69]
  simp only [h, hs, Bool.and_true]
theorem back_op (w : World) : Value.okWideB Try.prog w 93 (.agg Oop.zero.cells.toArray) = true := by
  have h : Cell.okWideRowB Try.prog w 93 Oop.zero.cells.toArray = true :=
    okRow_lin (ts := (Try.prog.cellTypes Try.prog.depth 93).getD []) (by kernel_rfl) (by kernel_rfl) (by kernel_rfl)
  have hs : (Oop.zero.cells.toArray.size == Try.prog.cellsOf 93) = true := by kernel_rfl
  unfold Value.okWideB
  rw [Try.underlying93]
  simp only [h, hs, Bool.and_true]
theorem back_ok (w : World) : Input.okWideB Try.checked.prog w 5 ⟨#[], backArgs, []⟩ = true :=
  okInput2 (P := Try.prog) (t0 := 69) (t1 := 93) Try.func5 (by kernel_rfl) (by kernel_rfl) (by kernel_rfl) (by kernel_rfl) (by kernel_rfl) (back_deed w) (back_op w)

end Go.Proofs.Ytldmkafobbemjaa
namespace Go.Proofs.Ytldmkafobbemjaa.deedBack
set_option linter.unusedSimpArgs false
set_option linter.unusedVariables false
open Go.ChangeShapes Go.WideShapes Go.ChangeAt Go.RowKit
open Go.ChangeMaps (open_string shut_string)

theorem own : ownKnob Try.prog.godebug = none := by kernel_rfl
theorem laidOut : laidOutB Try.prog = true := by kernel_rfl

theorem walk (d : Deed) (hd : d.Wide) (o : Oop) (ho : o.Num) (a0 : Option Addr) (c0 : Nat) (a1 : Option Addr) (c1 : Nat) (a2 : Option Addr) (c2 : Nat) (w : World)
    (hr : BackRows w d (.slice a0 d.s.conds.length c0) (.slice a1 d.a.way.length c1) (.slice a2 d.b.way.length c2)) :
    Calls Try.prog 5 #[.agg (d.cells (.slice a0 d.s.conds.length c0) (.slice a1 d.a.way.length c1) (.slice a2 d.b.way.length c2)).toArray, .agg o.cells.toArray] w fun e w' => e = .returned (.bool true) ∧ Below w.heap.size w w' := by
  refine (deedBack_ok d hd o ho a0 c0 a1 c1 a2 c2 w hr).mono ?_
  rintro e w' ⟨rfl, hS⟩
  exact ⟨rfl, hS.below⟩

/-! ### THE ROW's STEP -/
set_option maxRecDepth 100000 in
theorem lifted (os : Os) (started : os.Started) (H : Type) (enc : TypeId × Value → H) :
    ReturnsInHanded {} Try.checked os 5 .any (Rows.deedBackSpec.pre6 enc Try.prog Try.f5 Rows.deedBackRow.domain false) (Rows.deedBackSpec.post enc Try.prog Try.f5 false true false false) := by
  refine returnsInHanded_of_change (C := Try.checked) own started (by kernel_rfl) Try.func5
    (ChangeSpec.witness6 (enc := enc) (C := Try.checked) false ⟨#[], backArgs, []⟩ 12 (by kernel_rfl) (by kernel_rfl) (back_ok _) (by kernel_rfl)) ?_
  intro W base args ds gs before hval0 hW hcnd _
  have hval : ∀ (j : Nat) t v, Try.f5.params[j]? = some t → args[j]? = some v → Value.okWide Try.prog W .any base t v := hval0
  have hW' := hW
  obtain ⟨p, q, hA0, hV, rfl, hfz, hnd⟩ := hW
  have hA : DataW.TrodAll enc Try.prog W 0 (fun _ => true) true Try.f5.params.toList args.toList ds p := hA0
  rw [Try.params5] at hA hval
  obtain ⟨v0, vs0, d0, ds0, p0, q0, hargs, rfl, rfl, h0, r0⟩ := trodAll_cons hA
  obtain ⟨v1, vs1, d1, ds1, p1, q1, rfl, rfl, rfl, h1, r1⟩ := trodAll_cons r0
  obtain ⟨rfl, rfl, rfl⟩ := trodAll_nil r1
  obtain rfl : args = #[v0, v1] := by cases args; simp_all
  obtain ⟨rfl, rfl⟩ := trodVars_none hV
  obtain ⟨ca, rfl, _⟩ := okWide_struct Try.underlying69 (hval 0 69 v0 rfl rfl)
  obtain ⟨cb, rfl, _⟩ := okWide_struct Try.underlying93 (hval 1 93 v1 rfl rfl)
  have k0 := h0
  have lt0 : ∀ x ∈ p0, x.block < W.heap.size := by obtain ⟨m, hm⟩ := k0; exact DataW.trod_lt m _ _ _ hm
  have k1 := h1
  have lt1 : ∀ x ∈ p1, x.block < W.heap.size := by obtain ⟨m, hm⟩ := k1; exact DataW.trod_lt m _ _ _ hm
  obtain ⟨d, a0, c0, a1, c1, a2, c2, rfl, hd, hr⟩ : ∃ (d : Deed) (a0 : Option Addr) (c0 : Nat) (a1 : Option Addr) (c1 : Nat) (a2 : Option Addr) (c2 : Nat), ca = (d.cells (.slice a0 d.s.conds.length c0) (.slice a1 d.a.way.length c1) (.slice a2 d.b.way.length c2)).toArray ∧ d.Wide ∧
      BackRows W d (.slice a0 d.s.conds.length c0) (.slice a1 d.a.way.length c1) (.slice a2 d.b.way.length c2) := by
    obtain ⟨fuel, hf⟩ := h0
    obtain ⟨d, a0, c0, a1, c1, a2, c2, e, h⟩ := open_deed (cs := ca.toList) hf
    exact ⟨d, a0, c0, a1, c1, a2, c2, by rw [← e], h⟩
  obtain ⟨o, rfl, ho⟩ : ∃ o : Oop, cb = o.cells.toArray ∧ o.Num := by
    obtain ⟨fuel, hf⟩ := h1
    obtain ⟨o, e, x1, x2, x3⟩ := likeW_op cb.toList (o_op.opens _ _ _ _ _ _ _ _ hf)
    exact ⟨o, by rw [← e], ⟨x1, x2.1, x2.2.1, x2.2.2⟩, x3.1, x3.2⟩
  clear hA0 hval0
  refine (walk d hd o ho a0 c0 a1 c1 a2 c2 W hr).mono fun e W' ⟨he, bel⟩ => ?_
  subst he
  exact ⟨_, rfl, _, _, _, [], _, [], hW', trodAll_mk1 (shut_bool Try.underlying4 _), (trodAll_cons_mk (Below.trod laidOut (by kernel_rfl) (of_decide_eq_true (by kernel_rfl)) k0 bel lt0) (trodAll_cons_mk (Below.trod laidOut (by kernel_rfl) (of_decide_eq_true (by kernel_rfl)) k1 bel lt1) trodAll_mk0)), rfl, bel.frame _, fun h => by cases h⟩

theorem over : Rows.deedBackRow.holds Try.pinned (OpenSpec.ofChange Rows.deedBackSpec) :=
  OpenClaim.holds_of_wide 5 Try.f5 rfl rfl rfl rfl rfl rfl rfl ⟨rfl, rfl, rfl, rfl, rfl⟩ rfl rfl rfl rfl rfl (by kernel_rfl) Try.func5 (by kernel_rfl)
    (of_decide_eq_true (by kernel_rfl)) (by unfold Func.isWrapper; first | (rw [if_pos (by decide +kernel)]; kernel_rfl) | (rw [if_neg (by decide +kernel)]; exact ⟨rfl, rfl⟩))
    (fun os started H enc _ => lifted os started H enc)

/-- ████ THE STATEMENT ████ -/
theorem proved : Rows.DeedBackSaid := over
#print axioms proved
end Go.Proofs.Ytldmkafobbemjaa.deedBack
