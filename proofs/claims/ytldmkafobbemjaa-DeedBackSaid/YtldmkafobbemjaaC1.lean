/-
  A deed's cells: where its parts lie.
  A deed, as it is read off bytes by the program.
-/
import Derived.Test.YtldmkafobbemjaaB3
import Derived.Test.YtldmkafobbemjaaB2
namespace Go.Proofs.Ytldmkafobbemjaa
set_option linter.unusedSimpArgs false
set_option linter.unusedVariables false
open Go Go.RowKit
set_option maxRecDepth 100000
set_option maxHeartbeats 1000000

theorem State.len (s : State) (cv : Value) : (s.cells cv).length = 7 := rfl
theorem State.one (s : State) (cv : Value) (h : cv.oneCell' = true) : ∀ v, v ∈ s.cells cv → v.oneCell' = true := by
  intro v hv
  simp only [State.cells, List.mem_cons, List.not_mem_nil, or_false] at hv
  rcases hv with rfl | rfl | rfl | rfl | rfl | rfl | rfl
  · rfl
  · rfl
  · rfl
  · rfl
  · rfl
  · rfl
  · exact h
structure Deed.Fit (d : Deed) : Prop where
  a : d.a.l.cells.length = 1024
  b : d.b.l.cells.length = 1024
theorem Deed.Fit.zero' {s : State} : (Deed.mk s Sig.zero Sig.zero).Fit := ⟨lzero_len, lzero_len⟩
theorem Deed.Fit.zero : Deed.zero.Fit := ⟨lzero_len, lzero_len⟩
theorem Deed.Fit.la {d : Deed} (h : d.Fit) (v : Value) : (d.a.cells v).length = 1026 := Sig.len _ _ h.a
theorem Deed.Fit.lb {d : Deed} (h : d.Fit) (v : Value) : (d.b.cells v).length = 1026 := Sig.len _ _ h.b
theorem Deed.Fit.len {d : Deed} (h : d.Fit) (cv av bv : Value) : (d.cells cv av bv).length = 2059 := by
  simp [Deed.cells, State.len, h.la, h.lb]
theorem Deed.one (d : Deed) (cv av bv : Value) (h1 : cv.oneCell' = true) (h2 : av.oneCell' = true) (h3 : bv.oneCell' = true) : ∀ v, v ∈ d.cells cv av bv → v.oneCell' = true := by
  intro v hv
  simp only [Deed.cells, List.mem_append] at hv
  rcases hv with (hv | hv) | hv
  · exact State.one _ _ h1 v hv
  · exact Sig.one _ _ h2 v hv
  · exact Sig.one _ _ h3 v hv
section
variable {d : Deed} (h : d.Fit) (cv av bv : Value)
theorem Deed.g0 : (d.cells cv av bv)[0]? = some (.int .u32 d.s.channel) := rfl
theorem Deed.g1 : (d.cells cv av bv)[1]? = some (.int .u64 d.s.round) := rfl
theorem Deed.g6 : (d.cells cv av bv)[6]? = some cv := rfl
theorem Deed.gs : ((d.cells cv av bv).drop 0).take 7 = d.s.cells cv := rfl
theorem Deed.set_s (s' : State) (cv' : Value) : (d.cells cv av bv).take 0 ++ s'.cells cv' ++ (d.cells cv av bv).drop (0 + 7) = Deed.cells ⟨s', d.a, d.b⟩ cv' av bv := by
  have e : (d.cells cv av bv).drop (0 + 7) = d.a.cells av ++ d.b.cells bv := by
    rw [Nat.zero_add, Deed.cells, List.append_assoc, List.drop_left' (State.len _ _)]
  rw [e]
  simp [Deed.cells]
include h
theorem Deed.ga : ((d.cells cv av bv).drop 7).take 1026 = d.a.cells av := by
  have e : (d.cells cv av bv).drop 7 = d.a.cells av ++ d.b.cells bv := by
    rw [Deed.cells, List.append_assoc, List.drop_left' (State.len _ _)]
  rw [e, List.take_left' (h.la _)]
theorem Deed.gb : ((d.cells cv av bv).drop 1033).take 1026 = d.b.cells bv := by
  have e : (d.cells cv av bv).drop 1033 = d.b.cells bv := by
    rw [Deed.cells, List.drop_left' (by rw [List.length_append, State.len, h.la])]
  rw [e, List.take_of_length_le (Nat.le_of_eq (h.lb _))]
theorem Deed.gsigs : ((d.cells cv av bv).drop 7).take 2052 = d.a.cells av ++ d.b.cells bv := by
  have e : (d.cells cv av bv).drop 7 = d.a.cells av ++ d.b.cells bv := by
    rw [Deed.cells, List.append_assoc, List.drop_left' (State.len _ _)]
  rw [e, List.take_of_length_le (by rw [List.length_append, h.la, h.lb]; exact Nat.le_refl _)]
theorem Deed.set_a (a' : Sig) (av' : Value) : (d.cells cv av bv).take 7 ++ a'.cells av' ++ (d.cells cv av bv).drop (7 + 1026) = Deed.cells ⟨d.s, a', d.b⟩ cv av' bv := by
  have e : (d.cells cv av bv).drop (7 + 1026) = d.b.cells bv := by
    rw [Deed.cells, List.drop_left' (by rw [List.length_append, State.len, h.la])]
  have e2 : (d.cells cv av bv).take 7 = d.s.cells cv := by
    rw [Deed.cells, List.append_assoc, List.take_left' (State.len _ _)]
  rw [e, e2]
  simp [Deed.cells]
theorem Deed.set_b (b' : Sig) (bv' : Value) : (d.cells cv av bv).take 1033 ++ b'.cells bv' ++ (d.cells cv av bv).drop (1033 + 1026) = Deed.cells ⟨d.s, d.a, b'⟩ cv av bv' := by
  have e : (d.cells cv av bv).drop (1033 + 1026) = [] := List.drop_eq_nil_of_le (by rw [h.len]; exact Nat.le_refl _)
  have e2 : (d.cells cv av bv).take 1033 = d.s.cells cv ++ d.a.cells av := by
    rw [Deed.cells, List.take_left' (by rw [List.length_append, State.len, h.la])]
  rw [e, e2]
  simp [Deed.cells]
end

instance zeDeed : ZeroOK Try.prog 42 (Deed.zero.cells (.slice none 0 0) (.slice none 0 0) (.slice none 0 0)) := ⟨by kernel_rfl⟩
instance zeDeedR : ZeroOK Try.prog 69 (Deed.zero.cells (.slice none 0 0) (.slice none 0 0) (.slice none 0 0)) := ⟨by kernel_rfl⟩
theorem build_deed0 (w : World) : (Instr.build 42 #[]).run Try.prog w = .ok (.agg (Deed.zero.cells (.slice none 0 0) (.slice none 0 0) (.slice none 0 0)).toArray) w := by kernel_rfl
theorem build_deedR0 (w : World) : (Instr.build 69 #[]).run Try.prog w = .ok (.agg (Deed.zero.cells (.slice none 0 0) (.slice none 0 0) (.slice none 0 0)).toArray) w := by kernel_rfl
theorem fill_deed (s : State) (cv : Value) : Instr.fill ((#[(0, 7), (7, 2052)] : Array (Nat × Nat))[·]?) (Deed.zero.cells (.slice none 0 0) (.slice none 0 0) (.slice none 0 0)).toArray [(0, .agg (s.cells cv).toArray)]
    = some (Deed.cells ⟨s, Sig.zero, Sig.zero⟩ cv (.slice none 0 0) (.slice none 0 0)).toArray := by
  rw [fill_part _ _ _ _ _ 0 7 rfl (s.cells cv) rfl rfl (by rw [Deed.Fit.zero.len]; omega), Deed.set_s]
  rfl
theorem build_deed (s : State) (cv : Value) (w : World) : (Instr.build 42 [(0, .agg (s.cells cv).toArray)].toArray).run Try.prog w = .ok (.agg (Deed.cells ⟨s, Sig.zero, Sig.zero⟩ cv (.slice none 0 0) (.slice none 0 0)).toArray) w :=
  run_build Try.underlying42 (fun w => by kernel_rfl) (fill_deed s cv) w

/-! ### What is read, in two steps -/
def readTail (st : State × PS) : Deed × PS :=
  if 0 < st.1.round then (⟨st.1, (takeSig st.2).1, (takeSig (takeSig st.2).2).1⟩, (takeSig (takeSig st.2).2).2) else (⟨st.1, Sig.zero, Sig.zero⟩, st.2)
def readFin (d : Deed × PS) : Deed × Int := if d.2.fin.bad ≠ 0 then (Deed.zero, d.2.fin.bad) else (d.1, 0)
theorem readDeed_eq (l : List UInt8) : readDeed l = readFin (readTail (takeState ⟨l, 0⟩)) := rfl
theorem readTail_pos (s : State) (p : PS) (h : 0 < s.round) : readTail (s, p) = (⟨s, (takeSig p).1, (takeSig (takeSig p).2).1⟩, (takeSig (takeSig p).2).2) := by
  unfold readTail; rw [if_pos h]
theorem readTail_zero (s : State) (p : PS) (h : ¬ 0 < s.round) : readTail (s, p) = (⟨s, Sig.zero, Sig.zero⟩, p) := by
  unfold readTail; rw [if_neg h]

theorem readFin_ok (d : Deed) (s : PS) (h : s.fin.bad = 0) : readFin (d, s) = (d, 0) := by
  unfold readFin; rw [if_neg (by simpa using h)]
theorem readFin_bad (d : Deed) (s : PS) (h : s.fin.bad ≠ 0) : readFin (d, s) = (Deed.zero, s.fin.bad) := by
  unfold readFin; rw [if_pos h]

/-- A deed in a value, with the blocks of its payments and its two ways. -/
def ReadDPost (T C : TypeId) (d : Deed) (er : Int) (w : World) (e : Ending) (w' : World) : Prop :=
  ∃ cv av bv x y z, e = .returned (.tuple #[.agg (d.cells cv av bv).toArray, .int .i64 er]) ∧ St w [] w' [x, y, z] ∧
    RowV C 36 cv d.s.conds.length (condCells d.s.conds) x ∧ RowV T 32 av d.a.way.length (wayCells d.a.way) y ∧ RowV T 32 bv d.b.way.length (wayCells d.b.way) z

end Go.Proofs.Ytldmkafobbemjaa
namespace Go.Proofs.Ytldmkafobbemjaa
set_option linter.unusedSimpArgs false
set_option linter.unusedVariables false
open Go Go.RowKit
set_option maxRecDepth 100000
set_option maxHeartbeats 2000000

theorem readDeed_ok (u : Value) (l : List UInt8) (w : World) (hu : RowR w 1 u l.length (bs l)) (hl : l.length ≤ 1000000) :
    Calls Try.prog 7 #[u] w (ReadDPost 50 86 (readDeed l).1 (readDeed l).2 w) := by
  have hS := St.nil w
  obtain ⟨s0, hs0⟩ : ∃ s0, s0 = PS.mk l 0 := ⟨_, rfl⟩
  have h00 : s0.bad = 0 := by rw [hs0]
  have h01 : s0.rest = l := by rw [hs0]
  have H0 := Lib.hid (And.intro hs0 (And.intro h00 h01))
  clear hs0 h00 h01
  go_enter Try.func7, Try.ntmps7
  go_wp2_with (first | ((with_reducible show wpList _ _ _ (Oper.mk (some 2) (Op.alloc _) _ _ _ _ :: _) _ _); refine wpl rfl ?_; refine (owp_allocAt hS 2 rfl rfl ?_); clear hS; intro gr _ hS; simp only [List.cons_append, List.nil_append] at hS))
  refine (of_ok2 u l _ (hu.st0 hS) hl).mono ?_
  rintro e w1 ⟨b, g, cap, sp, rfl, hc, hcap, hcm⟩
  replace hS : St w [] w1 [inBlk b (.slice (some ⟨g, 0, none⟩) l.length cap) 0, backBlk g l sp, some (gr, Deed.zero.cells (.slice none 0 0) (.slice none 0 0) (.slice none 0 0), 42)] := (hS.call0 hc).pick [1, 2, 0] rfl (by decide)
  clear hc
  rw [← H0.out.2.1] at hS
  have Hv := Lib.hid (fun (A : List Nat) (w' : World) (v : Value) (bad : Int) (L : List Ent) (h : St w A w' (inBlk b v bad :: backBlk g l sp :: L)) => back_inv h hcap hcm)
  have hsub : SubV (.slice (some ⟨g, 0, none⟩) l.length cap) l (.slice (some ⟨g, 0, none⟩) l.length cap) s0.rest := by rw [H0.out.2.2]; exact SubV.refl _ _
  go_wp2_with fail
  refine (takeState_ok b _ s0 _ (hS.get 0 rfl) (hsub _ _ (Hv.out _ _ _ _ _ hS))).mono ?_
  rintro e w2 ⟨cv, v2, x, rfl, hc, hsub2, hrow⟩
  replace hS := hS.call1 0 rfl hc
  try simp only [List.cons_append, List.nil_append, List.append_nil, List.set_cons_zero, List.set_cons_succ] at hS
  replace hsub := hsub.trans hsub2
  clear hc hsub2
  have Hread := Lib.hid (show readDeed l = readFin (readTail ((takeState s0).1, (takeState s0).2)) by rw [H0.out.1]; rfl)
  generalize (takeState s0).1 = st at *
  generalize (takeState s0).2 = s1 at *
  obtain ⟨a0, c0, rfl⟩ := hrow.isSl
  have Hx := Lib.hid hrow
  have Hbd := Lib.hid (build_deed st (.slice a0 st.conds.length c0))
  clear hrow
  replace hS := hS.pick (L' := [inBlk b v2 s1.bad, backBlk g l sp, some (gr, Deed.zero.cells (.slice none 0 0) (.slice none 0 0) (.slice none 0 0), 42), x]) [0, 1, 2, 3] rfl (by decide)
  by_cases hr : 0 < st.round
  · have hr1 : (0 : Int) < st.round := by omega
    rw [readTail_pos st s1 hr] at Hread
    clear hr
    go_wp2_with (first
      | ((with_reducible show wpList _ _ _ (Oper.mk _ (Op.build _ _) _ _ _ _ :: _) _ _); refine wpl rfl ?_; refine owp_build rfl [(0, .agg (st.cells (.slice a0 st.conds.length c0)).toArray)] rfl (Hbd.out _) ?_)
      | ((with_reducible show wpList _ _ _ (Oper.mk (some 5) (Op.alloc _) _ _ _ _ :: _) _ _); refine wpl rfl ?_; refine (owp_allocAt hS 5 rfl rfl ?_); clear hS; intro gm _ hS; simp only [List.cons_append, List.nil_append] at hS)
      | ((with_reducible show wpList _ _ _ (Oper.mk _ (Op.store _ _ _) _ _ _ _ :: _) _ _); refine wpl rfl ?_; refine (owp_storeW hS 4 rfl rfl rfl rfl (Deed.Fit.zero'.len _ _ _) (Deed.Fit.zero.len _ _ _) (Deed.one _ _ _ _ rfl rfl rfl) ?_); clear hS; intro _ hS; try simp only [List.cons_append, List.nil_append, List.append_nil, List.set_cons_zero, List.set_cons_succ] at hS)
      | ((with_reducible show wpList _ _ _ (Oper.mk _ (Op.load _ _) _ _ _ _ :: _) _ _); refine wpl rfl ?_; refine owp_load1 hS 4 rfl rfl rfl (Deed.g1 _ _ _) ?_))
    replace hS := hS.pick (L' := [inBlk b v2 s1.bad, backBlk g l sp, some (gr, Deed.zero.cells (.slice none 0 0) (.slice none 0 0) (.slice none 0 0), 42), some (gm, Deed.cells ⟨st, Sig.zero, Sig.zero⟩ (.slice a0 st.conds.length c0) (.slice none 0 0) (.slice none 0 0), 42), x]) [0, 1, 2, 4, 3] rfl (by decide)
    refine (takeSig_ok b _ _ _ (hS.get 0 rfl) (hsub _ _ (Hv.out _ _ _ _ _ hS))).mono ?_
    rintro e w3 ⟨wv, v3, y, rfl, hc, hsub2, hrow⟩
    replace hS := hS.call1 0 rfl hc
    try simp only [List.cons_append, List.nil_append, List.append_nil, List.set_cons_zero, List.set_cons_succ] at hS
    replace hsub := hsub.trans hsub2
    clear hc hsub2
    have Hla := Lib.hid (show (takeSig s1).1.l.cells.length = 1024 from LSig.len _ (takeSig_lens s1).1 (takeSig_lens s1).2)
    generalize (takeSig s1).1 = sa at *
    generalize (takeSig s1).2 = s2 at *
    obtain ⟨a1, c1, rfl⟩ := hrow.isSl
    have Hy := Lib.hid hrow
    clear hrow
    have Hf1 := Lib.hid (show (Deed.mk st sa Sig.zero).Fit from ⟨Hla.out, lzero_len⟩)
    go_wp2_with (first
      | ((with_reducible show wpList _ _ _ (Oper.mk _ (Op.store _ _ _) _ _ _ _ :: _) _ _); refine wpl rfl ?_; refine owp_store hS 3 rfl rfl rfl rfl (Sig.len _ _ Hla.out) (by rw [Deed.Fit.zero'.len]; omega) (Sig.one _ _ rfl) (Deed.set_a Deed.Fit.zero' _ _ _ _ _) ?_; clear hS; intro _ hS; try simp only [List.cons_append, List.nil_append, List.append_nil, List.set_cons_zero, List.set_cons_succ] at hS))
    refine (takeSig_ok b _ _ _ (hS.get 0 rfl) (hsub _ _ (Hv.out _ _ _ _ _ hS))).mono ?_
    rintro e w4 ⟨wv, v4, z, rfl, hc, hsub2, hrow⟩
    replace hS := hS.call1 0 rfl hc
    try simp only [List.cons_append, List.nil_append, List.append_nil, List.set_cons_zero, List.set_cons_succ] at hS
    replace hsub := hsub.trans hsub2
    clear hc hsub2
    have Hlb := Lib.hid (show (takeSig s2).1.l.cells.length = 1024 from LSig.len _ (takeSig_lens s2).1 (takeSig_lens s2).2)
    generalize (takeSig s2).1 = sb at *
    generalize (takeSig s2).2 = s3 at *
    obtain ⟨a2, c2, rfl⟩ := hrow.isSl
    have Hz := Lib.hid hrow
    clear hrow
    have Hfit2 := Lib.hid (show (Deed.mk st sa sb).Fit from ⟨Hla.out, Hlb.out⟩)
    go_wp2_with (first
      | ((with_reducible show wpList _ _ _ (Oper.mk _ (Op.store _ _ _) _ _ _ _ :: _) _ _); refine wpl rfl ?_; refine owp_store hS 3 rfl rfl rfl rfl (Sig.len _ _ Hlb.out) (by rw [Hf1.out.len]; omega) (Sig.one _ _ rfl) (Deed.set_b Hf1.out _ _ _ _ _) ?_; clear hS; intro _ hS; try simp only [List.cons_append, List.nil_append, List.append_nil, List.set_cons_zero, List.set_cons_succ] at hS))
    have Hone := Lib.hid (Deed.one ⟨st, sa, sb⟩ (.slice a0 st.conds.length c0) (.slice a1 sa.way.length c1) (.slice a2 sb.way.length c2) rfl rfl rfl)
    -- here: at the call of End; hS at [in s3.bad, back, gr, gm, x, y, z]; Hread : readDeed l = readFin (_, s3); Hx Hy Hz the rows; Hfit2, Hone
    refine (end_ok b _ s3 (hsub _ _ (Hv.out _ _ _ _ _ hS)).le _ (hS.get 0 rfl) (hsub _ _ (Hv.out _ _ _ _ _ hS))).mono ?_
    rintro e w3 ⟨rfl, v5, hc, hsub2⟩
    replace hS := hS.call1 0 rfl hc
    try simp only [List.cons_append, List.nil_append, List.append_nil, List.set_cons_zero, List.set_cons_succ] at hS
    clear hc hsub2
    by_cases he : s3.fin.bad = 0
    · have Hread3 := Lib.hid (Hread.out.trans (readFin_ok _ _ he))
      clear Hread
      generalize s3.fin.bad = eb at *
      subst he
      go_wp2_with (first | ((with_reducible show wpList _ _ _ (Oper.mk _ (Op.load _ _) _ _ _ _ :: _) _ _); refine wpl rfl ?_; refine (owp_loadW hS 3 rfl rfl rfl (Hfit2.out.len _ _ _) ?_)) | ((with_reducible show wpList _ _ _ (Oper.mk _ (Op.store _ _ _) _ _ _ _ :: _) _ _); refine wpl rfl ?_; refine (owp_storeW hS 2 rfl rfl rfl rfl (Hfit2.out.len _ _ _) (Deed.Fit.zero.len _ _ _) (Hone.out) ?_); clear hS; intro _ hS; try simp only [List.cons_append, List.nil_append, List.append_nil, List.set_cons_zero, List.set_cons_succ] at hS))
      (try simp only [Exit.inBlock, Exit.then]); refine bodyPost_ret (res_cell2 rfl rfl hS 2 rfl (Hfit2.out.len _ _ _)) rfl ?_
      rw [Hread3.out]
      exact ⟨_, _, _, _, _, _, rfl, hS.pick [4, 5, 6] rfl (by decide), Hx.out, Hy.out, Hz.out⟩
    · have Hread3 := Lib.hid (Hread.out.trans (readFin_bad _ _ he))
      clear Hread
      generalize s3.fin.bad = eb at *
      have he1 : (eb != 0) = true := by simpa using he
      clear he
      go_wp2_with (first | ((with_reducible show wpList _ _ _ (Oper.mk _ (Op.build _ _) _ _ _ _ :: _) _ _); refine wpl rfl ?_; refine owp_build rfl [] rfl (build_deed0 _) ?_) | ((with_reducible show wpList _ _ _ (Oper.mk _ (Op.store _ _ _) _ _ _ _ :: _) _ _); refine wpl rfl ?_; refine (owp_storeW hS 2 rfl rfl rfl rfl (Deed.Fit.zero.len _ _ _) (Deed.Fit.zero.len _ _ _) (Deed.one _ _ _ _ rfl rfl rfl) ?_); clear hS; intro _ hS; try simp only [List.cons_append, List.nil_append, List.append_nil, List.set_cons_zero, List.set_cons_succ] at hS))
      (try simp only [Exit.inBlock, Exit.then]); refine bodyPost_ret (res_cell2 rfl rfl hS 2 rfl (Deed.Fit.zero.len _ _ _)) rfl ?_
      rw [Hread3.out]
      exact ⟨_, _, _, none, none, none, rfl, (hS.pick [] rfl (by decide)).addNone.addNone.addNone, RowV.nil _ _, RowV.nil _ _, RowV.nil _ _⟩
  · rw [readTail_zero st s1 hr] at Hread
    have hr1 : ¬ (0 : Int) < st.round := by omega
    clear hr
    go_wp2_with (first
      | ((with_reducible show wpList _ _ _ (Oper.mk _ (Op.build _ _) _ _ _ _ :: _) _ _); refine wpl rfl ?_; refine owp_build rfl [(0, .agg (st.cells (.slice a0 st.conds.length c0)).toArray)] rfl (Hbd.out _) ?_)
      | ((with_reducible show wpList _ _ _ (Oper.mk (some 5) (Op.alloc _) _ _ _ _ :: _) _ _); refine wpl rfl ?_; refine (owp_allocAt hS 5 rfl rfl ?_); clear hS; intro gm _ hS; simp only [List.cons_append, List.nil_append] at hS)
      | ((with_reducible show wpList _ _ _ (Oper.mk _ (Op.store _ _ _) _ _ _ _ :: _) _ _); refine wpl rfl ?_; refine (owp_storeW hS 4 rfl rfl rfl rfl (Deed.Fit.zero'.len _ _ _) (Deed.Fit.zero.len _ _ _) (Deed.one _ _ _ _ rfl rfl rfl) ?_); clear hS; intro _ hS; try simp only [List.cons_append, List.nil_append, List.append_nil, List.set_cons_zero, List.set_cons_succ] at hS)
      | ((with_reducible show wpList _ _ _ (Oper.mk _ (Op.load _ _) _ _ _ _ :: _) _ _); refine wpl rfl ?_; refine owp_load1 hS 4 rfl rfl rfl (Deed.g1 _ _ _) ?_))
    replace hS := hS.addNone.addNone.pick (L' := [inBlk b v2 s1.bad, backBlk g l sp, some (gr, Deed.zero.cells (.slice none 0 0) (.slice none 0 0) (.slice none 0 0), 42), some (gm, Deed.cells ⟨st, Sig.zero, Sig.zero⟩ (.slice a0 st.conds.length c0) (.slice none 0 0) (.slice none 0 0), 42), x, none, none]) [0, 1, 2, 4, 3, 5, 6] rfl (by decide)
    have Hfit2 := Lib.hid (show (Deed.mk st Sig.zero Sig.zero).Fit from Deed.Fit.zero')
    have Hone := Lib.hid (Deed.one ⟨st, Sig.zero, Sig.zero⟩ (.slice a0 st.conds.length c0) (.slice none 0 0) (.slice none 0 0) rfl rfl rfl)
    have Hy := Lib.hid (show RowV 50 32 (.slice none 0 0) Sig.zero.way.length (wayCells Sig.zero.way) none from RowV.nil _ _)
    have Hz := Hy
    generalize s1 = s3 at *
    -- here: at the call of End; hS at [in s3.bad, back, gr, gm, x, y, z]; Hread : readDeed l = readFin (_, s3); Hx Hy Hz the rows; Hfit2, Hone
    refine (end_ok b _ s3 (hsub _ _ (Hv.out _ _ _ _ _ hS)).le _ (hS.get 0 rfl) (hsub _ _ (Hv.out _ _ _ _ _ hS))).mono ?_
    rintro e w3 ⟨rfl, v5, hc, hsub2⟩
    replace hS := hS.call1 0 rfl hc
    try simp only [List.cons_append, List.nil_append, List.append_nil, List.set_cons_zero, List.set_cons_succ] at hS
    clear hc hsub2
    by_cases he : s3.fin.bad = 0
    · have Hread3 := Lib.hid (Hread.out.trans (readFin_ok _ _ he))
      clear Hread
      generalize s3.fin.bad = eb at *
      subst he
      go_wp2_with (first | ((with_reducible show wpList _ _ _ (Oper.mk _ (Op.load _ _) _ _ _ _ :: _) _ _); refine wpl rfl ?_; refine (owp_loadW hS 3 rfl rfl rfl (Hfit2.out.len _ _ _) ?_)) | ((with_reducible show wpList _ _ _ (Oper.mk _ (Op.store _ _ _) _ _ _ _ :: _) _ _); refine wpl rfl ?_; refine (owp_storeW hS 2 rfl rfl rfl rfl (Hfit2.out.len _ _ _) (Deed.Fit.zero.len _ _ _) (Hone.out) ?_); clear hS; intro _ hS; try simp only [List.cons_append, List.nil_append, List.append_nil, List.set_cons_zero, List.set_cons_succ] at hS))
      (try simp only [Exit.inBlock, Exit.then]); refine bodyPost_ret (res_cell2 rfl rfl hS 2 rfl (Hfit2.out.len _ _ _)) rfl ?_
      rw [Hread3.out]
      exact ⟨_, _, _, _, _, _, rfl, hS.pick [4, 5, 6] rfl (by decide), Hx.out, Hy.out, Hz.out⟩
    · have Hread3 := Lib.hid (Hread.out.trans (readFin_bad _ _ he))
      clear Hread
      generalize s3.fin.bad = eb at *
      have he1 : (eb != 0) = true := by simpa using he
      clear he
      go_wp2_with (first | ((with_reducible show wpList _ _ _ (Oper.mk _ (Op.build _ _) _ _ _ _ :: _) _ _); refine wpl rfl ?_; refine owp_build rfl [] rfl (build_deed0 _) ?_) | ((with_reducible show wpList _ _ _ (Oper.mk _ (Op.store _ _ _) _ _ _ _ :: _) _ _); refine wpl rfl ?_; refine (owp_storeW hS 2 rfl rfl rfl rfl (Deed.Fit.zero.len _ _ _) (Deed.Fit.zero.len _ _ _) (Deed.one _ _ _ _ rfl rfl rfl) ?_); clear hS; intro _ hS; try simp only [List.cons_append, List.nil_append, List.append_nil, List.set_cons_zero, List.set_cons_succ] at hS))
      (try simp only [Exit.inBlock, Exit.then]); refine bodyPost_ret (res_cell2 rfl rfl hS 2 rfl (Deed.Fit.zero.len _ _ _)) rfl ?_
      rw [Hread3.out]
      exact ⟨_, _, _, none, none, none, rfl, (hS.pick [] rfl (by decide)).addNone.addNone.addNone, RowV.nil _ _, RowV.nil _ _, RowV.nil _ _⟩

end Go.Proofs.Ytldmkafobbemjaa
