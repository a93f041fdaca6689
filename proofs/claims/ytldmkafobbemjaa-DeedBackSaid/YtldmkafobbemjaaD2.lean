/-
  The law DeedBack answers true, as a call: for any deed and any wish whose numbers fit.
-/
import Derived.Test.YtldmkafobbemjaaD1
import Derived.Test.YtldmkafobbemjaaC1
namespace Go.Proofs.Ytldmkafobbemjaa
set_option linter.unusedSimpArgs false
set_option linter.unusedVariables false
open Go Go.RowKit
set_option maxRecDepth 100000
set_option maxHeartbeats 4000000

theorem Far.row {e : TypeId} {size n : Nat} {v : Value} {xs : List Value} {x : Ent} (h : RowV e size v n xs x) {w0 w : World} {A : List Nat} {L : List Ent} (hS : St w0 A w L) (i : Nat) (hx : L[i]? = some x) : Far w [] v := by
  intro ad m c e
  refine ⟨by simp, ?_⟩
  rcases h with ⟨rfl, _⟩ | ⟨g, cap, sp, rfl, rfl, _⟩
  · cases e
  · simp only [Value.slice.injEq, Option.some.injEq] at e
    obtain ⟨rfl, _⟩ := e
    exact hS.lt (mem_keys.2 ⟨_, _, mem_getElem? hx⟩)
theorem run_eql_same {P : Program} {a : Act} {w : World} {o : Oper} {t ty : TypeId} {x y : Operand} (ho : o.op = .binOp .eql t x y ty) {ks : List IntKind} {d : Nat}
    (he : ETy P t true ks d) (hd : d ≤ 10000) (hg : P.eqGuardType P.depth t = false) {cs : List Value} (hx : a.eval x = .agg cs.toArray) (hy : a.eval y = .agg cs.toArray) (hl : LikeK ks cs) :
    (execOp a.eval o).run P w = .ok (.value (.bool true)) w := by
  obtain ⟨r, hr, hiff⟩ := he.eq 10000 hd w cs cs hl hl
  have hrb : r = true := by simpa using hiff
  subst hrb
  simp only [valT, if_true] at hr
  unfold execOp
  simp only [ho, hx, hy, Sem.run_bind, run_eqGuard_agg w .eql t x y cs.toArray cs.toArray hg, Result.andThen_ok, run_eql_struct, hr, Sem.run_pure]
theorem build_sigs0R (w : World) : (Instr.build 67 #[]).run Try.prog w = .ok (.agg zSigs.toArray) w := by kernel_rfl

structure Cond.Num (c : Cond) : Prop where
  hash : c.hash.length = 32
  id : c.id < 2 ^ 64
  amount : c.amount < 2 ^ 64
  expiry : c.expiry < 2 ^ 64
theorem Cond.Num.ok {c : Cond} (h : c.Num) (hs : c.side = 0 ∨ c.side = 1) : c.Ok := ⟨h.hash, h.id, by omega, h.amount, h.expiry⟩
structure Deed.Wide (d : Deed) : Prop where
  channel : d.s.channel < 2 ^ 32
  round : d.s.round < 2 ^ 64
  m0 : d.s.m0 < 2 ^ 64
  m1 : d.s.m1 < 2 ^ 64
  t0 : d.s.t0 < 2 ^ 64
  t1 : d.s.t1 < 2 ^ 64
  conds : ∀ c, c ∈ d.s.conds → c.Num
  a : d.a.Fit
  b : d.b.Fit
  ka : d.a.key < 2 ^ 32
  kb : d.b.key < 2 ^ 32
structure Oop.Num (o : Oop) : Prop where
  cond : o.cond.Num
  amount : o.amount < 2 ^ 64
  id : o.id < 2 ^ 64
/-- What is laid and taken back: a deed of the round nothing bears no signature. -/
structure BackOk (d : Deed) : Prop where
  ok : d.Ok
  sides : ∀ c, c ∈ d.s.conds → c.side = 0 ∨ c.side = 1
  small : d.Small
  bare : d.s.round = 0 → d.a = Sig.zero ∧ d.b = Sig.zero
theorem BackOk.read {d : Deed} (h : BackOk d) : readDeed (deedBytes d) = (d, 0) := readDeed_bytes d h.ok h.sides h.small.s.conds h.small.wa h.small.wb h.bare
theorem BackOk.len {d : Deed} (h : BackOk d) : (deedBytes d).length ≤ 1000000 := by
  have h1 := layState_len d.s h.small.s.hash
  have h2 := laySig_len d.a h.small.a
  have h3 := laySig_len d.b h.small.b
  have h4 := h.small.s.conds
  have h5 := h.small.wa
  have h6 := h.small.wb
  unfold deedBytes
  split
  · simp only [List.length_append]; omega
  · omega
def BackRows (w : World) (d : Deed) (cv av bv : Value) : Prop :=
  RowR w 36 cv d.s.conds.length (condCells d.s.conds) ∧ RowR w 32 av d.a.way.length (wayCells d.a.way) ∧ RowR w 32 bv d.b.way.length (wayCells d.b.way)
theorem backRead_ok (d : Deed) (h : BackOk d) (u : Value) (w : World) (hu : RowR w 1 u (deedBytes d).length (bs (deedBytes d))) :
    Calls Try.prog 7 #[u] w (ReadDPost 50 86 d 0 w) := by
  have h1 := readDeed_ok u _ w hu h.len
  rw [h.read] at h1
  exact h1
theorem takeBack_ok (o : Oop) (ho : o.Ok) (hs : o.cond.side = 0 ∨ o.cond.side = 1) (b : Nat) (v : Value) (w : World) (hb : Holds w (inBlk b v 0)) (hv : InV w b v (layOp o)) :
    Calls Try.prog 22 #[.pointer (some ⟨b, 0, none⟩)] w (InPost w b v ⟨layOp o, 0⟩ (.agg o.cells.toArray) ⟨[], 0⟩) := by
  have h := takeOp_ok b v ⟨layOp o, 0⟩ w hb hv
  have e := takeOp_reads o ho hs []
  rw [List.append_nil] at e
  unfold OpPost at h
  rw [e] at h
  exact h


theorem Oop.Num.okOf {o : Oop} (h : o.Num) (hk : 0 ≤ o.kind ∧ o.kind ≤ 255) (hs : o.cond.side = 0 ∨ o.cond.side = 1) : o.Ok := ⟨h.cond.ok hs, hk, h.amount, h.id⟩
theorem Deed.Wide.back {d : Deed} (h : d.Wide) (hs : ∀ c, c ∈ d.s.conds → c.side = 0 ∨ c.side = 1) (h8 : d.s.conds.length ≤ 8 ∧ d.a.way.length ≤ 8 ∧ d.b.way.length ≤ 8) (h0 : d.s.round ≠ 0) : BackOk d :=
  ⟨⟨⟨h.channel, h.round, h.m0, h.m1, h.t0, h.t1, fun c hc => (h.conds c hc).ok (hs c hc)⟩, h.a, h.b, h.ka, h.kb⟩, hs, ⟨⟨h8.1, fun c hc => (h.conds c hc).hash⟩, h.a, h.b, h8.2.1, h8.2.2⟩, fun e => (h0 e).elim⟩
theorem Deed.Wide.back0 {d : Deed} (h : d.Wide) (hs : ∀ c, c ∈ d.s.conds → c.side = 0 ∨ c.side = 1) (h8 : d.s.conds.length ≤ 8) : BackOk ⟨d.s, Sig.zero, Sig.zero⟩ :=
  ⟨⟨⟨h.channel, h.round, h.m0, h.m1, h.t0, h.t1, fun c hc => (h.conds c hc).ok (hs c hc)⟩, Sig.zero_fit, Sig.zero_fit, by simp [Sig.zero], by simp [Sig.zero]⟩, hs, ⟨⟨h8, fun c hc => (h.conds c hc).hash⟩, Sig.zero_fit, Sig.zero_fit, by simp [Sig.zero], by simp [Sig.zero]⟩, fun _ => ⟨rfl, rfl⟩⟩
theorem zSigs_len : zSigs.length = 2052 := by rw [zSigs, List.length_append, Sig.len _ _ lzero_len]
theorem zSigs_one : ∀ v, v ∈ zSigs → v.oneCell' = true := by
  intro v hv
  rcases List.mem_append.1 hv with hv | hv
  · exact Sig.one _ _ rfl v hv
  · exact Sig.one _ _ rfl v hv

theorem deedBack_ok (d : Deed) (hd : d.Wide) (o : Oop) (ho : o.Num) (a0 : Option Addr) (c0 : Nat) (a1 : Option Addr) (c1 : Nat) (a2 : Option Addr) (c2 : Nat) (w : World)
    (hr : BackRows w d (.slice a0 d.s.conds.length c0) (.slice a1 d.a.way.length c1) (.slice a2 d.b.way.length c2)) :
    Calls Try.prog 5 #[.agg (d.cells (.slice a0 d.s.conds.length c0) (.slice a1 d.a.way.length c1) (.slice a2 d.b.way.length c2)).toArray, .agg o.cells.toArray] w (TruePost w) := by
  have hS := St.nil w
  have hfit : d.Fit := ⟨LSig.len d.a.l hd.a.shown hd.a.other, LSig.len d.b.l hd.b.shown hd.b.other⟩
  have Hfit := Lib.hid hfit
  have G6 := Lib.hid (Deed.g6 (d := d) (.slice a0 d.s.conds.length c0) (.slice a1 d.a.way.length c1) (.slice a2 d.b.way.length c2))
  have G1 := Lib.hid (Deed.g1 (d := d) (.slice a0 d.s.conds.length c0) (.slice a1 d.a.way.length c1) (.slice a2 d.b.way.length c2))
  have Gwa := Lib.hid (Deed.gwa hfit (.slice a0 d.s.conds.length c0) (.slice a1 d.a.way.length c1) (.slice a2 d.b.way.length c2))
  have Gwb := Lib.hid (Deed.gwb hfit (.slice a0 d.s.conds.length c0) (.slice a1 d.a.way.length c1) (.slice a2 d.b.way.length c2))
  have Gset := Lib.hid (Deed.set_sigs hfit (.slice a0 d.s.conds.length c0) (.slice a1 d.a.way.length c1) (.slice a2 d.b.way.length c2) Sig.zero Sig.zero (.slice none 0 0) (.slice none 0 0))
  have Glen := Lib.hid (hfit.len (.slice a0 d.s.conds.length c0) (.slice a1 d.a.way.length c1) (.slice a2 d.b.way.length c2))
  have K0 := Lib.hid (show o.cells[0]? = some (.int .i64 o.kind) from rfl)
  have K3 := Lib.hid (show o.cells[3]? = some (.int .i64 o.cond.side) from rfl)
  have Hol := Lib.hid (Oop.len o ho.cond.hash)
  have Hr := Lib.hid hr
  have Hd := Lib.hid hd
  have Ho := Lib.hid ho
  have Hcs := Lib.hid (show d.cells (.slice a0 d.s.conds.length c0) (.slice a1 d.a.way.length c1) (.slice a2 d.b.way.length c2) = d.cells (.slice a0 d.s.conds.length c0) (.slice a1 d.a.way.length c1) (.slice a2 d.b.way.length c2) from rfl)
  clear hr hd ho hfit
  generalize hcs : d.cells (.slice a0 d.s.conds.length c0) (.slice a1 d.a.way.length c1) (.slice a2 d.b.way.length c2) = cs at Glen Gset Gwb Gwa G1 G6 ⊢
  have Hcs2 := Lib.hid hcs
  clear hcs Hcs
  generalize hos : o.cells = os at K0 K3 Hol ⊢
  have Hos := Lib.hid hos
  clear hos
  by_cases h1 : 8 < d.s.conds.length
  · have t1 : decide ((8 : Int) < d.s.conds.length) = true := decide_eq_true (by omega)
    clear h1
    go_enter Try.func5, Try.ntmps5
    go_wp2_with (first
      | ((with_reducible show wpList _ _ _ (Oper.mk (some 2) (Op.box _ _) _ _ _ _ :: _) _ _); refine wpl rfl ?_; refine owp_box hS rfl (vs := cs) rfl ?_; clear hS; intro gd _ hS; try simp only [List.cons_append, List.nil_append, List.append_nil, List.set_cons_zero, List.set_cons_succ] at hS)
      | ((with_reducible show wpList _ _ _ (Oper.mk (some 3) (Op.box _ _) _ _ _ _ :: _) _ _); refine wpl rfl ?_; refine owp_box hS rfl (vs := os) rfl ?_; clear hS; intro go _ hS; try simp only [List.cons_append, List.nil_append, List.append_nil, List.set_cons_zero, List.set_cons_succ] at hS)
      | ((with_reducible show wpList _ _ _ (Oper.mk (some 13) (Op.load _ _) _ _ _ _ :: _) _ _); refine wpl rfl ?_; refine owp_load1 hS 0 rfl rfl rfl G6.out ?_)
      | ((with_reducible show wpList _ _ _ (Oper.mk (some 20) (Op.load _ _) _ _ _ _ :: _) _ _); refine wpl rfl ?_; refine owp_load1 hS 0 rfl rfl rfl Gwa.out ?_)
      | ((with_reducible show wpList _ _ _ (Oper.mk (some 28) (Op.load _ _) _ _ _ _ :: _) _ _); refine wpl rfl ?_; refine owp_load1 hS 0 rfl rfl rfl Gwb.out ?_)
      | ((with_reducible show wpList _ _ _ (Oper.mk (some 34) (Op.load _ _) _ _ _ _ :: _) _ _); refine wpl rfl ?_; refine owp_load1 hS 1 rfl rfl rfl K0.out ?_)
      | ((with_reducible show wpList _ _ _ (Oper.mk (some 39) (Op.load _ _) _ _ _ _ :: _) _ _); refine wpl rfl ?_; refine owp_load1 hS 1 rfl rfl rfl K0.out ?_)
      | ((with_reducible show wpList _ _ _ (Oper.mk (some 45) (Op.load _ _) _ _ _ _ :: _) _ _); refine wpl rfl ?_; refine owp_load1 hS 0 rfl rfl rfl G6.out ?_))
    refine (awakeD_ok _).mono ?_
    rintro e w1 ⟨rfl, hc⟩
    replace hS := hS.call0 hc
    clear hc
    go_wp2_with fail
    go_ret
    exact ⟨rfl, hS.pick [] rfl (by decide)⟩
  · have t1 : decide ((8 : Int) < d.s.conds.length) = false := decide_eq_false (by omega)
    by_cases h2 : 8 < d.a.way.length
    · have t2 : decide ((8 : Int) < d.a.way.length) = true := decide_eq_true (by omega)
      clear h1 h2
      go_enter Try.func5, Try.ntmps5
      go_wp2_with (first
        | ((with_reducible show wpList _ _ _ (Oper.mk (some 2) (Op.box _ _) _ _ _ _ :: _) _ _); refine wpl rfl ?_; refine owp_box hS rfl (vs := cs) rfl ?_; clear hS; intro gd _ hS; try simp only [List.cons_append, List.nil_append, List.append_nil, List.set_cons_zero, List.set_cons_succ] at hS)
        | ((with_reducible show wpList _ _ _ (Oper.mk (some 3) (Op.box _ _) _ _ _ _ :: _) _ _); refine wpl rfl ?_; refine owp_box hS rfl (vs := os) rfl ?_; clear hS; intro go _ hS; try simp only [List.cons_append, List.nil_append, List.append_nil, List.set_cons_zero, List.set_cons_succ] at hS)
        | ((with_reducible show wpList _ _ _ (Oper.mk (some 13) (Op.load _ _) _ _ _ _ :: _) _ _); refine wpl rfl ?_; refine owp_load1 hS 0 rfl rfl rfl G6.out ?_)
        | ((with_reducible show wpList _ _ _ (Oper.mk (some 20) (Op.load _ _) _ _ _ _ :: _) _ _); refine wpl rfl ?_; refine owp_load1 hS 0 rfl rfl rfl Gwa.out ?_)
        | ((with_reducible show wpList _ _ _ (Oper.mk (some 28) (Op.load _ _) _ _ _ _ :: _) _ _); refine wpl rfl ?_; refine owp_load1 hS 0 rfl rfl rfl Gwb.out ?_)
        | ((with_reducible show wpList _ _ _ (Oper.mk (some 34) (Op.load _ _) _ _ _ _ :: _) _ _); refine wpl rfl ?_; refine owp_load1 hS 1 rfl rfl rfl K0.out ?_)
        | ((with_reducible show wpList _ _ _ (Oper.mk (some 39) (Op.load _ _) _ _ _ _ :: _) _ _); refine wpl rfl ?_; refine owp_load1 hS 1 rfl rfl rfl K0.out ?_)
        | ((with_reducible show wpList _ _ _ (Oper.mk (some 45) (Op.load _ _) _ _ _ _ :: _) _ _); refine wpl rfl ?_; refine owp_load1 hS 0 rfl rfl rfl G6.out ?_))
      refine (awakeD_ok _).mono ?_
      rintro e w1 ⟨rfl, hc⟩
      replace hS := hS.call0 hc
      clear hc
      go_wp2_with fail
      go_ret
      exact ⟨rfl, hS.pick [] rfl (by decide)⟩
    · have t2 : decide ((8 : Int) < d.a.way.length) = false := decide_eq_false (by omega)
      by_cases h3 : 8 < d.b.way.length
      · have t3 : decide ((8 : Int) < d.b.way.length) = true := decide_eq_true (by omega)
        clear h1 h2 h3
        go_enter Try.func5, Try.ntmps5
        go_wp2_with (first
          | ((with_reducible show wpList _ _ _ (Oper.mk (some 2) (Op.box _ _) _ _ _ _ :: _) _ _); refine wpl rfl ?_; refine owp_box hS rfl (vs := cs) rfl ?_; clear hS; intro gd _ hS; try simp only [List.cons_append, List.nil_append, List.append_nil, List.set_cons_zero, List.set_cons_succ] at hS)
          | ((with_reducible show wpList _ _ _ (Oper.mk (some 3) (Op.box _ _) _ _ _ _ :: _) _ _); refine wpl rfl ?_; refine owp_box hS rfl (vs := os) rfl ?_; clear hS; intro go _ hS; try simp only [List.cons_append, List.nil_append, List.append_nil, List.set_cons_zero, List.set_cons_succ] at hS)
          | ((with_reducible show wpList _ _ _ (Oper.mk (some 13) (Op.load _ _) _ _ _ _ :: _) _ _); refine wpl rfl ?_; refine owp_load1 hS 0 rfl rfl rfl G6.out ?_)
          | ((with_reducible show wpList _ _ _ (Oper.mk (some 20) (Op.load _ _) _ _ _ _ :: _) _ _); refine wpl rfl ?_; refine owp_load1 hS 0 rfl rfl rfl Gwa.out ?_)
          | ((with_reducible show wpList _ _ _ (Oper.mk (some 28) (Op.load _ _) _ _ _ _ :: _) _ _); refine wpl rfl ?_; refine owp_load1 hS 0 rfl rfl rfl Gwb.out ?_)
          | ((with_reducible show wpList _ _ _ (Oper.mk (some 34) (Op.load _ _) _ _ _ _ :: _) _ _); refine wpl rfl ?_; refine owp_load1 hS 1 rfl rfl rfl K0.out ?_)
          | ((with_reducible show wpList _ _ _ (Oper.mk (some 39) (Op.load _ _) _ _ _ _ :: _) _ _); refine wpl rfl ?_; refine owp_load1 hS 1 rfl rfl rfl K0.out ?_)
          | ((with_reducible show wpList _ _ _ (Oper.mk (some 45) (Op.load _ _) _ _ _ _ :: _) _ _); refine wpl rfl ?_; refine owp_load1 hS 0 rfl rfl rfl G6.out ?_))
        refine (awakeD_ok _).mono ?_
        rintro e w1 ⟨rfl, hc⟩
        replace hS := hS.call0 hc
        clear hc
        go_wp2_with fail
        go_ret
        exact ⟨rfl, hS.pick [] rfl (by decide)⟩
      · have t3 : decide ((8 : Int) < d.b.way.length) = false := decide_eq_false (by omega)
        by_cases h4 : o.kind < 0
        · have t4 : decide (o.kind < 0) = true := decide_eq_true h4
          clear h1 h2 h3 h4
          go_enter Try.func5, Try.ntmps5
          go_wp2_with (first
            | ((with_reducible show wpList _ _ _ (Oper.mk (some 2) (Op.box _ _) _ _ _ _ :: _) _ _); refine wpl rfl ?_; refine owp_box hS rfl (vs := cs) rfl ?_; clear hS; intro gd _ hS; try simp only [List.cons_append, List.nil_append, List.append_nil, List.set_cons_zero, List.set_cons_succ] at hS)
            | ((with_reducible show wpList _ _ _ (Oper.mk (some 3) (Op.box _ _) _ _ _ _ :: _) _ _); refine wpl rfl ?_; refine owp_box hS rfl (vs := os) rfl ?_; clear hS; intro go _ hS; try simp only [List.cons_append, List.nil_append, List.append_nil, List.set_cons_zero, List.set_cons_succ] at hS)
            | ((with_reducible show wpList _ _ _ (Oper.mk (some 13) (Op.load _ _) _ _ _ _ :: _) _ _); refine wpl rfl ?_; refine owp_load1 hS 0 rfl rfl rfl G6.out ?_)
            | ((with_reducible show wpList _ _ _ (Oper.mk (some 20) (Op.load _ _) _ _ _ _ :: _) _ _); refine wpl rfl ?_; refine owp_load1 hS 0 rfl rfl rfl Gwa.out ?_)
            | ((with_reducible show wpList _ _ _ (Oper.mk (some 28) (Op.load _ _) _ _ _ _ :: _) _ _); refine wpl rfl ?_; refine owp_load1 hS 0 rfl rfl rfl Gwb.out ?_)
            | ((with_reducible show wpList _ _ _ (Oper.mk (some 34) (Op.load _ _) _ _ _ _ :: _) _ _); refine wpl rfl ?_; refine owp_load1 hS 1 rfl rfl rfl K0.out ?_)
            | ((with_reducible show wpList _ _ _ (Oper.mk (some 39) (Op.load _ _) _ _ _ _ :: _) _ _); refine wpl rfl ?_; refine owp_load1 hS 1 rfl rfl rfl K0.out ?_)
            | ((with_reducible show wpList _ _ _ (Oper.mk (some 45) (Op.load _ _) _ _ _ _ :: _) _ _); refine wpl rfl ?_; refine owp_load1 hS 0 rfl rfl rfl G6.out ?_))
          refine (awakeD_ok _).mono ?_
          rintro e w1 ⟨rfl, hc⟩
          replace hS := hS.call0 hc
          clear hc
          go_wp2_with fail
          go_ret
          exact ⟨rfl, hS.pick [] rfl (by decide)⟩
        · by_cases h5 : 255 < o.kind
          · have t4 : decide (o.kind < 0) = false := decide_eq_false h4
            have t5 : decide (255 < o.kind) = true := decide_eq_true h5
            clear h1 h2 h3 h4 h5
            go_enter Try.func5, Try.ntmps5
            go_wp2_with (first
              | ((with_reducible show wpList _ _ _ (Oper.mk (some 2) (Op.box _ _) _ _ _ _ :: _) _ _); refine wpl rfl ?_; refine owp_box hS rfl (vs := cs) rfl ?_; clear hS; intro gd _ hS; try simp only [List.cons_append, List.nil_append, List.append_nil, List.set_cons_zero, List.set_cons_succ] at hS)
              | ((with_reducible show wpList _ _ _ (Oper.mk (some 3) (Op.box _ _) _ _ _ _ :: _) _ _); refine wpl rfl ?_; refine owp_box hS rfl (vs := os) rfl ?_; clear hS; intro go _ hS; try simp only [List.cons_append, List.nil_append, List.append_nil, List.set_cons_zero, List.set_cons_succ] at hS)
              | ((with_reducible show wpList _ _ _ (Oper.mk (some 13) (Op.load _ _) _ _ _ _ :: _) _ _); refine wpl rfl ?_; refine owp_load1 hS 0 rfl rfl rfl G6.out ?_)
              | ((with_reducible show wpList _ _ _ (Oper.mk (some 20) (Op.load _ _) _ _ _ _ :: _) _ _); refine wpl rfl ?_; refine owp_load1 hS 0 rfl rfl rfl Gwa.out ?_)
              | ((with_reducible show wpList _ _ _ (Oper.mk (some 28) (Op.load _ _) _ _ _ _ :: _) _ _); refine wpl rfl ?_; refine owp_load1 hS 0 rfl rfl rfl Gwb.out ?_)
              | ((with_reducible show wpList _ _ _ (Oper.mk (some 34) (Op.load _ _) _ _ _ _ :: _) _ _); refine wpl rfl ?_; refine owp_load1 hS 1 rfl rfl rfl K0.out ?_)
              | ((with_reducible show wpList _ _ _ (Oper.mk (some 39) (Op.load _ _) _ _ _ _ :: _) _ _); refine wpl rfl ?_; refine owp_load1 hS 1 rfl rfl rfl K0.out ?_)
              | ((with_reducible show wpList _ _ _ (Oper.mk (some 45) (Op.load _ _) _ _ _ _ :: _) _ _); refine wpl rfl ?_; refine owp_load1 hS 0 rfl rfl rfl G6.out ?_))
            refine (awakeD_ok _).mono ?_
            rintro e w1 ⟨rfl, hc⟩
            replace hS := hS.call0 hc
            clear hc
            go_wp2_with fail
            go_ret
            exact ⟨rfl, hS.pick [] rfl (by decide)⟩
          · have h4' : 0 ≤ o.kind := by omega
            have h5' : o.kind ≤ 255 := by omega
            have Hk := Lib.hid (And.intro h4' h5')
            have H8 := Lib.hid (show d.s.conds.length ≤ 8 ∧ d.a.way.length ≤ 8 ∧ d.b.way.length ≤ 8 from ⟨by omega, by omega, by omega⟩)
            have t4 : decide (o.kind < 0) = false := decide_eq_false h4
            have t5 : decide (255 < o.kind) = false := decide_eq_false h5
            clear h1 h2 h3 h4 h5 h4' h5'
            go_enter Try.func5, Try.ntmps5
            go_wp2_with (first
              | ((with_reducible show wpList _ _ _ (Oper.mk (some 2) (Op.box _ _) _ _ _ _ :: _) _ _); refine wpl rfl ?_; refine owp_box hS rfl (vs := cs) rfl ?_; clear hS; intro gd _ hS; try simp only [List.cons_append, List.nil_append, List.append_nil, List.set_cons_zero, List.set_cons_succ] at hS)
              | ((with_reducible show wpList _ _ _ (Oper.mk (some 3) (Op.box _ _) _ _ _ _ :: _) _ _); refine wpl rfl ?_; refine owp_box hS rfl (vs := os) rfl ?_; clear hS; intro go _ hS; try simp only [List.cons_append, List.nil_append, List.append_nil, List.set_cons_zero, List.set_cons_succ] at hS)
              | ((with_reducible show wpList _ _ _ (Oper.mk (some 13) (Op.load _ _) _ _ _ _ :: _) _ _); refine wpl rfl ?_; refine owp_load1 hS 0 rfl rfl rfl G6.out ?_)
              | ((with_reducible show wpList _ _ _ (Oper.mk (some 20) (Op.load _ _) _ _ _ _ :: _) _ _); refine wpl rfl ?_; refine owp_load1 hS 0 rfl rfl rfl Gwa.out ?_)
              | ((with_reducible show wpList _ _ _ (Oper.mk (some 28) (Op.load _ _) _ _ _ _ :: _) _ _); refine wpl rfl ?_; refine owp_load1 hS 0 rfl rfl rfl Gwb.out ?_)
              | ((with_reducible show wpList _ _ _ (Oper.mk (some 34) (Op.load _ _) _ _ _ _ :: _) _ _); refine wpl rfl ?_; refine owp_load1 hS 1 rfl rfl rfl K0.out ?_)
              | ((with_reducible show wpList _ _ _ (Oper.mk (some 39) (Op.load _ _) _ _ _ _ :: _) _ _); refine wpl rfl ?_; refine owp_load1 hS 1 rfl rfl rfl K0.out ?_)
              | ((with_reducible show wpList _ _ _ (Oper.mk (some 45) (Op.load _ _) _ _ _ _ :: _) _ _); refine wpl rfl ?_; refine owp_load1 hS 0 rfl rfl rfl G6.out ?_))
            clear t1 t2 t3 t4 t5
            have h8n := H8.out.1
            go_loopw [6, 47] (fun _ i wr => ∃ k : Nat, k ≤ d.s.conds.length ∧ i = .int .i64 k ∧ (∀ c, c ∈ d.s.conds.take k → c.side = 0 ∨ c.side = 1) ∧ St w [] wr [some (gd, cs, 69), some (go, os, 93)]) (fun _ i _ => d.s.conds.length - (intOf i).toNat)
            case atStart => exact ⟨0, Nat.zero_le _, rfl, fun c hc => by simp at hc, hS⟩
            case round =>
              clear hS
              obtain ⟨k, hk, rfl, hall, hS⟩ := hrel
              by_cases hlt : k < d.s.conds.length
              · obtain ⟨g, off, rfl, hcs⟩ := Hr.out.1.cellsAll k hlt
                rw [condCells_drop d.s.conds (fun c hc => (Hd.out.conds c hc).hash) k hlt] at hcs
                have Hcs := Lib.hid hcs
                have Hcl := Lib.hid (Cond.len d.s.conds[k] (Hd.out.conds _ (List.getElem_mem hlt)).hash)
                have Hall := Lib.hid (show ∀ c, c ∈ d.s.conds.take (k + 1) → c ∈ d.s.conds.take k ∨ c = d.s.conds[k] by
                  intro c hc
                  rw [List.take_succ_eq_append_getElem hlt, List.mem_append, List.mem_singleton] at hc
                  exact hc)
                clear hcs
                generalize d.s.conds[k] = c at *
                by_cases hs0 : c.side = 0
                · have hb0 : (c.side != 0) = false := by simp [hs0]
                  go_wp2_with (first
                    | ((with_reducible show wpList _ _ _ (Oper.mk (some 50) (Op.load _ _) _ _ _ _ :: _) _ _); refine wpl rfl ?_; refine owp_loadR rfl rfl (Hcs.out _ _ hS) Hcl.out ?_)
                    | ((with_reducible show wpList _ _ _ (Oper.mk (some 6) (Op.alloc _) _ _ _ _ :: _) _ _); refine wpl rfl ?_; refine (owp_allocAt hS 6 rfl rfl ?_); clear hS; intro gc _ hS; simp only [List.cons_append, List.nil_append] at hS)
                    | ((with_reducible show wpList _ _ _ (Oper.mk _ (Op.store _ _ _) _ _ _ _ :: _) _ _); refine wpl rfl ?_; refine (owp_storeW hS 2 rfl rfl rfl rfl (Hcl.out) (Cond.len Cond.zero (zb_length 32)) (Cond.one _) ?_); clear hS; intro _ hS; try simp only [List.cons_append, List.nil_append, List.append_nil, List.set_cons_zero, List.set_cons_succ] at hS)
                    | ((with_reducible show wpList _ _ _ (Oper.mk _ (Op.load _ _) _ _ _ _ :: _) _ _); refine wpl rfl ?_; refine owp_load1 hS 2 rfl rfl rfl (show c.cells[1]? = some (.int .i64 c.side) from rfl) ?_))
                  go_roundw
                  case rel =>
                    refine ⟨k + 1, by omega, by go_num, ?_, hS.pick [0, 1] rfl (by decide)⟩
                    intro c' hc'
                    rcases Hall.out c' hc' with h | rfl
                    · exact hall c' h
                    · exact .inl hs0
                  case measure => simp [intOf]; omega
                · by_cases hs1 : c.side = 1
                  · have hb0 : (c.side != 0) = true := by simp [hs1]
                    have hb1 : (c.side != 1) = false := by simp [hs1]
                    go_wp2_with (first
                      | ((with_reducible show wpList _ _ _ (Oper.mk (some 50) (Op.load _ _) _ _ _ _ :: _) _ _); refine wpl rfl ?_; refine owp_loadR rfl rfl (Hcs.out _ _ hS) Hcl.out ?_)
                      | ((with_reducible show wpList _ _ _ (Oper.mk (some 6) (Op.alloc _) _ _ _ _ :: _) _ _); refine wpl rfl ?_; refine (owp_allocAt hS 6 rfl rfl ?_); clear hS; intro gc _ hS; simp only [List.cons_append, List.nil_append] at hS)
                      | ((with_reducible show wpList _ _ _ (Oper.mk _ (Op.store _ _ _) _ _ _ _ :: _) _ _); refine wpl rfl ?_; refine (owp_storeW hS 2 rfl rfl rfl rfl (Hcl.out) (Cond.len Cond.zero (zb_length 32)) (Cond.one _) ?_); clear hS; intro _ hS; try simp only [List.cons_append, List.nil_append, List.append_nil, List.set_cons_zero, List.set_cons_succ] at hS)
                      | ((with_reducible show wpList _ _ _ (Oper.mk _ (Op.load _ _) _ _ _ _ :: _) _ _); refine wpl rfl ?_; refine owp_load1 hS 2 rfl rfl rfl (show c.cells[1]? = some (.int .i64 c.side) from rfl) ?_))
                    go_roundw
                    case rel =>
                      refine ⟨k + 1, by omega, by go_num, ?_, hS.pick [0, 1] rfl (by decide)⟩
                      intro c' hc'
                      rcases Hall.out c' hc' with h | rfl
                      · exact hall c' h
                      · exact .inr hs1
                    case measure => simp [intOf]; omega
                  · have hb0 : (c.side != 0) = true := by simpa using hs0
                    have hb1 : (c.side != 1) = true := by simpa using hs1
                    go_wp2_with (first
                      | ((with_reducible show wpList _ _ _ (Oper.mk (some 50) (Op.load _ _) _ _ _ _ :: _) _ _); refine wpl rfl ?_; refine owp_loadR rfl rfl (Hcs.out _ _ hS) Hcl.out ?_)
                      | ((with_reducible show wpList _ _ _ (Oper.mk (some 6) (Op.alloc _) _ _ _ _ :: _) _ _); refine wpl rfl ?_; refine (owp_allocAt hS 6 rfl rfl ?_); clear hS; intro gc _ hS; simp only [List.cons_append, List.nil_append] at hS)
                      | ((with_reducible show wpList _ _ _ (Oper.mk _ (Op.store _ _ _) _ _ _ _ :: _) _ _); refine wpl rfl ?_; refine (owp_storeW hS 2 rfl rfl rfl rfl (Hcl.out) (Cond.len Cond.zero (zb_length 32)) (Cond.one _) ?_); clear hS; intro _ hS; try simp only [List.cons_append, List.nil_append, List.append_nil, List.set_cons_zero, List.set_cons_succ] at hS)
                      | ((with_reducible show wpList _ _ _ (Oper.mk _ (Op.load _ _) _ _ _ _ :: _) _ _); refine wpl rfl ?_; refine owp_load1 hS 2 rfl rfl rfl (show c.cells[1]? = some (.int .i64 c.side) from rfl) ?_))
                    refine (awakeD_ok _).mono ?_
                    rintro e w1 ⟨rfl, hc⟩
                    replace hS := hS.call0 hc
                    clear hc
                    go_wp2_with fail
                    go_ret
                    exact ⟨rfl, hS.pick [] rfl (by decide)⟩
              · have hkn : k = d.s.conds.length := by omega
                subst hkn
                rw [List.take_length] at hall
                have Hsides := Lib.hid hall
                clear hall hlt hk
                by_cases hs0 : o.cond.side = 0 ∨ o.cond.side = 1
                · have Hside := Lib.hid hs0
                  go_upto_region 9 with fail
                  try simp only [Act.put, List.setIfInBounds_toArray, List.set_cons_succ, List.set_cons_zero]
                  go_cut [70] (fun s wr => s = .bool false ∧ St w [] wr [some (gd, cs, 69), some (go, os, 93)])
                  case first =>
                    rcases hs0 with hs0 | hs0
                    · have hb0 : (o.cond.side != 0) = false := by simp [hs0]
                      go_wp2_with (first
                        | ((with_reducible show wpList _ _ _ (Oper.mk (some 63) (Op.load _ _) _ _ _ _ :: _) _ _); refine wpl rfl ?_; refine owp_load1 hS 1 rfl rfl rfl K3.out ?_)
                        | ((with_reducible show wpList _ _ _ (Oper.mk (some 68) (Op.load _ _) _ _ _ _ :: _) _ _); refine wpl rfl ?_; refine owp_load1 hS 1 rfl rfl rfl K3.out ?_))
                      go_meet
                      exact ⟨rfl, hS⟩
                    · have hb0 : (o.cond.side != 0) = true := by simp [hs0]
                      have hb1 : (o.cond.side != 1) = false := by simp [hs0]
                      go_wp2_with (first
                        | ((with_reducible show wpList _ _ _ (Oper.mk (some 63) (Op.load _ _) _ _ _ _ :: _) _ _); refine wpl rfl ?_; refine owp_load1 hS 1 rfl rfl rfl K3.out ?_)
                        | ((with_reducible show wpList _ _ _ (Oper.mk (some 68) (Op.load _ _) _ _ _ _ :: _) _ _); refine wpl rfl ?_; refine owp_load1 hS 1 rfl rfl rfl K3.out ?_))
                      go_meet
                      exact ⟨rfl, hS⟩
                  case rest =>
                    clear hS
                    obtain ⟨rfl, hS⟩ := hcut
                    clear hs0
                    by_cases hr0 : d.s.round = 0
                    · have hr1 : ((d.s.round : Int) == 0) = true := by simp [hr0]
                      have Hbk := Lib.hid (Hd.out.back0 Hsides.out H8.out.1)
                      have Hz8 := Lib.hid zSigs_len
                      have Hz1 := Lib.hid zSigs_one
                      have Gset2 := Lib.hid (show cs.take 7 ++ zSigs ++ cs.drop (7 + 2052) = Deed.cells ⟨d.s, Sig.zero, Sig.zero⟩ (.slice a0 d.s.conds.length c0) (.slice none 0 0) (.slice none 0 0) from Gset.out)
                      have Hb0 := Lib.hid build_sigs0R
                      clear hr0
                      generalize zSigs = zs at *
                      go_upto_region 13 with (first
                        | ((with_reducible show wpList _ _ _ (Oper.mk (some 74) (Op.load _ _) _ _ _ _ :: _) _ _); refine wpl rfl ?_; refine owp_load1 hS 0 rfl rfl rfl G1.out ?_)
                        | ((with_reducible show wpList _ _ _ (Oper.mk (some 76) (Op.build _ _) _ _ _ _ :: _) _ _); refine wpl rfl ?_; refine owp_build rfl [] rfl (Hb0.out _) ?_)
                        | ((with_reducible show wpList _ _ _ (Oper.mk _ (Op.store _ _ _) _ _ _ _ :: _) _ _); refine wpl rfl ?_; refine owp_store hS 0 rfl rfl rfl rfl Hz8.out (by rw [Glen.out]; omega) Hz1.out Gset2.out ?_; clear hS; intro _ hS; try simp only [List.cons_append, List.nil_append, List.append_nil, List.set_cons_zero, List.set_cons_succ] at hS))
                      rw [← Hos.out] at hS
                      have hmid : ∃ dd cv av bv, St w [] _ [some (gd, Deed.cells dd cv av bv, 69), some (go, o.cells, 93)] ∧ BackOk dd ∧ BackRows w dd cv av bv := ⟨_, _, _, _, hS, Hbk.out, Hr.out.1, ⟨by simp [Sig.zero, wayCells], .inl ⟨rfl, rfl⟩⟩, ⟨by simp [Sig.zero, wayCells], .inl ⟨rfl, rfl⟩⟩⟩
                      clear Hr Hbk Gset2 Hb0 Hz8 Hz1 hr1
                      -- here: hmid
                      clear hS
                      obtain ⟨dd, cv, av, bv, hS, hok, hrr⟩ := hmid
                      have Hok := Lib.hid hok
                      have Hr := Lib.hid hrr
                      have Hft := Lib.hid hok.small.fit
                      have Hread := Lib.hid (fun u w' h => backRead_ok dd hok u w' h)
                      have Hoo := Lib.hid (Ho.out.okOf Hk.out Hside.out)
                      have Htake := Lib.hid (fun b v w' h1 h2 => takeBack_ok o Hoo.out Hside.out b v w' h1 h2)
                      have Hlay := Lib.hid (layOp_length o Ho.out.cond.hash)
                      have Hor := Lib.hid (Oop.len o Ho.out.cond.hash)
                      clear hok hrr
                      go_wp2_with (first
                        | ((with_reducible show wpList _ _ _ (Oper.mk (some 79) (Op.load _ _) _ _ _ _ :: _) _ _); refine wpl rfl ?_; refine owp_loadW hS 0 rfl rfl rfl (Hft.out.len _ _ _) ?_))
                      refine (deedTo_ok dd Hok.out.small cv av bv _ (Hr.out.1.st0 hS) (Hr.out.2.1.st0 hS) (Hr.out.2.2.st0 hS)).mono ?_
                      rintro e w2 ⟨cv2, av2, bv2, x2, y2, z2, rfl, hc, hx, hy, hz⟩
                      replace hS := hS.call0 hc
                      try simp only [List.cons_append, List.nil_append, List.append_nil, List.set_cons_zero, List.set_cons_succ] at hS
                      clear hc
                      go_wp2_with fail
                      refine (deedBytes_ok dd Hok.out.ok cv2 av2 bv2 _ (hx.read (hS.get 2 rfl)) (hy.read (hS.get 3 rfl)) (hz.read (hS.get 4 rfl)) (Far.row hx hS 2 rfl) (Far.row hy hS 3 rfl) (Far.row hz hS 4 rfl) (Nat.le_trans Hok.out.small.s.conds (by decide)) (Nat.le_trans Hok.out.small.wa (by decide)) (Nat.le_trans Hok.out.small.wb (by decide))).mono ?_
                      rintro e w3 ⟨v3, x3, rfl, hrow3, hc⟩
                      replace hS := hS.call0 hc
                      try simp only [List.cons_append, List.nil_append, List.append_nil, List.set_cons_zero, List.set_cons_succ] at hS
                      clear hc hx hy hz
                      have Hrow3 := Lib.hid hrow3
                      obtain ⟨a3, c3, rfl⟩ := hrow3.isSl
                      clear hrow3
                      go_wp2_with fail
                      refine (Hread.out _ _ (Hrow3.out.read (hS.get 5 rfl))).mono ?_
                      rintro e w4 ⟨cv4, av4, bv4, x4, y4, z4, rfl, hc, hx, hy, hz⟩
                      replace hS := hS.call0 hc
                      try simp only [List.cons_append, List.nil_append, List.append_nil, List.set_cons_zero, List.set_cons_succ] at hS
                      clear hc
                      obtain ⟨a4, c4, rfl⟩ := hx.isSl
                      obtain ⟨a5, c5, rfl⟩ := hy.isSl
                      obtain ⟨a6, c6, rfl⟩ := hz.isSl
                      have Hx := Lib.hid hx
                      have Hy := Lib.hid hy
                      have Hz := Lib.hid hz
                      clear hx hy hz
                      go_wp2_with (first
                        | ((with_reducible show wpList _ _ _ (Oper.mk (some 7) (Op.alloc _) _ _ _ _ :: _) _ _); refine wpl rfl ?_; refine (owp_allocAt hS 7 rfl rfl ?_); clear hS; intro gx _ hS; simp only [List.cons_append, List.nil_append] at hS)
                        | ((with_reducible show wpList _ _ _ (Oper.mk _ (Op.store _ _ _) _ _ _ _ :: _) _ _); refine wpl rfl ?_; refine (owp_storeW hS 9 rfl rfl rfl rfl (Hft.out.len _ _ _) (Deed.Fit.zero.len _ _ _) (Deed.one _ _ _ _ rfl rfl rfl) ?_); clear hS; intro _ hS; try simp only [List.cons_append, List.nil_append, List.append_nil, List.set_cons_zero, List.set_cons_succ] at hS)
                        | ((with_reducible show wpList _ _ _ (Oper.mk (some 85) (Op.load _ _) _ _ _ _ :: _) _ _); refine wpl rfl ?_; refine owp_loadW hS 1 rfl rfl rfl Hor.out ?_))
                      refine (opTo_ok o Ho.out.cond.hash _).mono ?_
                      rintro e w5 ⟨rfl, hc⟩
                      replace hS := hS.call0 hc
                      try simp only [List.cons_append, List.nil_append, List.append_nil, List.set_cons_zero, List.set_cons_succ] at hS
                      clear hc
                      go_wp2_with fail
                      refine (layOp_ok o Hoo.out none (.slice none 0 0) [] _ (fun _ _ _ h => by cases h) (RowV.nil _ _) (by simp)).mono ?_
                      rintro e w6 ⟨v6, x6, rfl, hrow6, hc⟩
                      rw [List.nil_append] at hrow6
                      replace hS := hS.call0 hc
                      try simp only [List.cons_append, List.nil_append, List.append_nil, List.set_cons_zero, List.set_cons_succ] at hS
                      clear hc
                      obtain ⟨a7, c7, rfl⟩ := hrow6.isSl
                      have Hrow6 := Lib.hid hrow6
                      clear hrow6
                      go_wp2_with fail
                      refine (of_ok2 _ (layOp o) _ (Hrow6.out.read (hS.get 10 rfl)) (by rw [Hlay.out]; omega)).mono ?_
                      rintro e w7 ⟨b, g, cap, sp, rfl, hc, hcap, hcm⟩
                      replace hS := hS.call0 hc
                      try simp only [List.cons_append, List.nil_append, List.append_nil, List.set_cons_zero, List.set_cons_succ] at hS
                      clear hc
                      replace hS := hS.pick (L' := [inBlk b (.slice (some ⟨g, 0, none⟩) (layOp o).length cap) 0, backBlk g (layOp o) sp, some (gd, dd.cells cv av bv, 69), some (go, o.cells, 93), x4, y4, z4, some (gx, dd.cells (.slice a4 dd.s.conds.length c4) (.slice a5 dd.a.way.length c5) (.slice a6 dd.b.way.length c6), 42)]) [11, 12, 0, 1, 6, 7, 8, 9] rfl (by decide)
                      go_wp2_with fail
                      refine (Htake.out b _ _ (hS.get 0 rfl) (back_inv hS hcap hcm)).mono ?_
                      rintro e w8 ⟨rfl, v8, hc, hsub⟩
                      replace hS := hS.call1 0 rfl hc
                      try simp only [List.cons_append, List.nil_append, List.append_nil, List.set_cons_zero, List.set_cons_succ] at hS
                      clear hc
                      have Hback := Lib.hid (fun (A : List Nat) (w' : World) (v : Value) (bad : Int) (L : List Ent) (h : St w A w' (inBlk b v bad :: backBlk g (layOp o) sp :: L)) => hsub _ b (back_inv h hcap hcm))
                      have Hk := Lib.hid (Oop.like o Ho.out.cond.hash)
                      have Hoz := Lib.hid (Oop.len Oop.zero (zb_length 32))
                      clear hsub hcap hcm
                      generalize layOp o = lo at *
                      go_wp2_with (first
                        | ((with_reducible show wpList _ _ _ (Oper.mk (some 10) (Op.alloc _) _ _ _ _ :: _) _ _); refine wpl rfl ?_; refine (owp_allocAt hS 10 rfl rfl ?_); clear hS; intro gp _ hS; simp only [List.cons_append, List.nil_append] at hS)
                        | ((with_reducible show wpList _ _ _ (Oper.mk _ (Op.store _ _ _) _ _ _ _ :: _) _ _); refine wpl rfl ?_; refine (owp_storeW hS 8 rfl rfl rfl rfl (Hor.out) (Hoz.out) (Oop.one _) ?_); clear hS; intro _ hS; try simp only [List.cons_append, List.nil_append, List.append_nil, List.set_cons_zero, List.set_cons_succ] at hS))
                      try simp only [Act.put, List.setIfInBounds_toArray, List.set_cons_succ, List.set_cons_zero]
                      replace hS := hS.drew
                      refine wp_region_held_drew (S := (fun w' => CellsAt w' ⟨gx, 0, none⟩ (dd.cells (.slice a4 dd.s.conds.length c4) (.slice a5 dd.a.way.length c5) (.slice a6 dd.b.way.length c6)) ∧ CellsAt w' ⟨gd, 0, none⟩ (dd.cells cv av bv) ∧ CellsAt w' ⟨gp, 0, none⟩ o.cells ∧ CellsAt w' ⟨go, 0, none⟩ o.cells)) (by kernel_rfl) ⟨(hS.get 7 rfl).range 0 2059 (by rw [List.drop_zero, List.take_of_length_le (Nat.le_of_eq (Hft.out.len _ _ _))]), (hS.get 2 rfl).range 0 2059 (by rw [List.drop_zero, List.take_of_length_le (Nat.le_of_eq (Hft.out.len _ _ _))]), (hS.get 8 rfl).range 0 39 (by rw [List.drop_zero, List.take_of_length_le (Nat.le_of_eq Hor.out)]), (hS.get 3 rfl).range 0 39 (by rw [List.drop_zero, List.take_of_length_le (Nat.le_of_eq Hor.out)])⟩ (fun hHeld => ?_)
                      refine wpAnyH_ready (rs := [0]) (by kernel_rfl) (by simp) ?_
                      refine hcons rfl rfl (fun K hK => ?_) ?_
                      · clear hHeld
                        refine owp_call rfl (by kernel_rfl) (args := #[]) rfl (awakeD_ok _) ?_
                        rintro e w9 ⟨rfl, hc⟩
                        replace hS := hS.call0 hc
                        try simp only [List.cons_append, List.nil_append, List.append_nil, List.set_cons_zero, List.set_cons_succ] at hS
                        clear hc
                        refine ⟨_, rfl, ?_⟩
                        refine hK.out _ _ ⟨(hS.get 7 rfl).range 0 2059 (by rw [List.drop_zero, List.take_of_length_le (Nat.le_of_eq (Hft.out.len _ _ _))]), (hS.get 2 rfl).range 0 2059 (by rw [List.drop_zero, List.take_of_length_le (Nat.le_of_eq (Hft.out.len _ _ _))]), (hS.get 8 rfl).range 0 39 (by rw [List.drop_zero, List.take_of_length_le (Nat.le_of_eq Hor.out)]), (hS.get 3 rfl).range 0 39 (by rw [List.drop_zero, List.take_of_length_le (Nat.le_of_eq Hor.out)])⟩ (fun hHeld => ?_)
                        clear hK K
                        simp only [Act.put, List.setIfInBounds_toArray, List.set_cons_succ, List.set_cons_zero]
                        refine htake (i := 1) (v := (.bool true)) rfl (by kernel_rfl) (by kernel_rfl) (by kernel_rfl) (fun _ _ _ h => h) (Or.inl ⟨by rfl, by (intro w hSw; (try dsimp only at hSw); (try obtain ⟨_, _, _, _⟩ := hSw); go_simp; try with_reducible rfl)⟩) (by assumption) ?_; simp only [Act.put, List.setIfInBounds_toArray, List.set_cons_succ, List.set_cons_zero]
                        refine htake (i := 2) (v := (.int .i64 0)) rfl (by kernel_rfl) (by kernel_rfl) (by kernel_rfl) (fun _ _ _ h => h) (Or.inl ⟨by rfl, by (intro w hSw; (try dsimp only at hSw); (try obtain ⟨_, _, _, _⟩ := hSw); go_simp; try with_reducible rfl)⟩) (by assumption) ?_; simp only [Act.put, List.setIfInBounds_toArray, List.set_cons_succ, List.set_cons_zero]
                        refine htake (i := 3) (v := (.bool true)) rfl (by kernel_rfl) (by kernel_rfl) (by kernel_rfl) (fun _ _ _ h => h) (Or.inl ⟨by rfl, by (intro w hSw; (try dsimp only at hSw); (try obtain ⟨_, _, _, _⟩ := hSw); go_simp; try with_reducible rfl)⟩) (by assumption) ?_; simp only [Act.put, List.setIfInBounds_toArray, List.set_cons_succ, List.set_cons_zero]
                        refine htake (i := 4) (v := (.bool true)) rfl (by kernel_rfl) (by kernel_rfl) (by kernel_rfl) (fun _ _ _ h => h) (Or.inl ⟨by rfl, by (intro w hSw; (try dsimp only at hSw); (try obtain ⟨_, _, _, _⟩ := hSw); go_simp; try with_reducible rfl)⟩) (by assumption) ?_; simp only [Act.put, List.setIfInBounds_toArray, List.set_cons_succ, List.set_cons_zero]
                        refine htake (i := 5) (v := (.bool true)) rfl (by kernel_rfl) (by kernel_rfl) (by kernel_rfl) (fun _ _ _ h => h) (Or.inl ⟨by rfl, by (intro w hSw; (try dsimp only at hSw); (try obtain ⟨_, _, _, _⟩ := hSw); go_simp; try with_reducible rfl)⟩) (by assumption) ?_; simp only [Act.put, List.setIfInBounds_toArray, List.set_cons_succ, List.set_cons_zero]
                        refine htake (i := 6) (v := (.agg (dd.cells (.slice a4 dd.s.conds.length c4) (.slice a5 dd.a.way.length c5) (.slice a6 dd.b.way.length c6)).toArray)) rfl (by kernel_rfl) (by kernel_rfl) (by kernel_rfl) (fun _ _ _ h => h) (Or.inl ⟨by rfl, yl_loadR rfl rfl (Hft.out.len _ _ _) (fun _ h => h.1)⟩) (by assumption) ?_; simp only [Act.put, List.setIfInBounds_toArray, List.set_cons_succ, List.set_cons_zero]
                        refine htake (i := 8) (v := (.agg (dd.cells cv av bv).toArray)) rfl (by kernel_rfl) (by kernel_rfl) (by kernel_rfl) (fun _ _ _ h => h) (Or.inl ⟨by rfl, yl_loadR rfl rfl (Hft.out.len _ _ _) (fun _ h => h.2.1)⟩) (by assumption) ?_; simp only [Act.put, List.setIfInBounds_toArray, List.set_cons_succ, List.set_cons_zero]
                        refine wpAnyH_ready (rs := [7]) (by kernel_rfl) (by simp) ?_
                        refine hcons rfl rfl (fun K hK => ?_) ?_
                        · clear hHeld
                          have hcall := deedFrom_ok dd Hok.out.small (.slice a4 dd.s.conds.length c4) (.slice a5 dd.a.way.length c5) (.slice a6 dd.b.way.length c6) _ (Hx.out.read (hS.get 4 rfl)) (Hy.out.read (hS.get 5 rfl)) (Hz.out.read (hS.get 6 rfl))
                          refine owp_call rfl (by kernel_rfl) (args := #[.agg (dd.cells (.slice a4 dd.s.conds.length c4) (.slice a5 dd.a.way.length c5) (.slice a6 dd.b.way.length c6)).toArray]) rfl hcall ?_
                          clear hcall
                          rintro e w10 ⟨cv7, av7, bv7, x7, y7, z7, rfl, hc, hx7, hy7, hz7⟩
                          replace hS := hS.call0 hc
                          try simp only [List.cons_append, List.nil_append, List.append_nil, List.set_cons_zero, List.set_cons_succ] at hS
                          clear hc
                          refine ⟨_, rfl, ?_⟩
                          refine hK.out _ _ ⟨(hS.get 7 rfl).range 0 2059 (by rw [List.drop_zero, List.take_of_length_le (Nat.le_of_eq (Hft.out.len _ _ _))]), (hS.get 2 rfl).range 0 2059 (by rw [List.drop_zero, List.take_of_length_le (Nat.le_of_eq (Hft.out.len _ _ _))]), (hS.get 8 rfl).range 0 39 (by rw [List.drop_zero, List.take_of_length_le (Nat.le_of_eq Hor.out)]), (hS.get 3 rfl).range 0 39 (by rw [List.drop_zero, List.take_of_length_le (Nat.le_of_eq Hor.out)])⟩ (fun hHeld => ?_)
                          clear hK K
                          simp only [Act.put, List.setIfInBounds_toArray, List.set_cons_succ, List.set_cons_zero]
                          refine wpAnyH_ready (rs := [9]) (by kernel_rfl) (by simp) ?_
                          refine hcons rfl rfl (fun K hK => ?_) ?_
                          · clear hHeld
                            have hcall := deedSame_ok dd Hok.out.small cv7 av7 bv7 cv av bv _ (hx7.read (hS.get 9 rfl)) (hy7.read (hS.get 10 rfl)) (hz7.read (hS.get 11 rfl)) (Hr.out.1.st0 hS) (Hr.out.2.1.st0 hS) (Hr.out.2.2.st0 hS)
                            refine owp_call rfl (by kernel_rfl) (args := #[.agg (dd.cells cv7 av7 bv7).toArray, .agg (dd.cells cv av bv).toArray]) rfl hcall ?_
                            clear hcall
                            rintro e w11 ⟨rfl, hc⟩
                            replace hS := hS.call0 hc
                            try simp only [List.cons_append, List.nil_append, List.append_nil, List.set_cons_zero, List.set_cons_succ] at hS
                            clear hc hx7 hy7 hz7
                            refine ⟨_, rfl, ?_⟩
                            refine hK.out _ _ ⟨(hS.get 7 rfl).range 0 2059 (by rw [List.drop_zero, List.take_of_length_le (Nat.le_of_eq (Hft.out.len _ _ _))]), (hS.get 2 rfl).range 0 2059 (by rw [List.drop_zero, List.take_of_length_le (Nat.le_of_eq (Hft.out.len _ _ _))]), (hS.get 8 rfl).range 0 39 (by rw [List.drop_zero, List.take_of_length_le (Nat.le_of_eq Hor.out)]), (hS.get 3 rfl).range 0 39 (by rw [List.drop_zero, List.take_of_length_le (Nat.le_of_eq Hor.out)])⟩ (fun hHeld => ?_)
                            clear hK K
                            simp only [Act.put, List.setIfInBounds_toArray, List.set_cons_succ, List.set_cons_zero]
                            refine htake (i := 10) (v := (.bool true)) rfl (by kernel_rfl) (by kernel_rfl) (by kernel_rfl) (fun _ _ _ h => h) (Or.inl ⟨by rfl, by (intro w hSw; (try dsimp only at hSw); (try obtain ⟨_, _, _, _⟩ := hSw); go_simp; try with_reducible rfl)⟩) (by assumption) ?_; simp only [Act.put, List.setIfInBounds_toArray, List.set_cons_succ, List.set_cons_zero]
                            refine htake (i := 11) (v := (.bool true)) rfl (by kernel_rfl) (by kernel_rfl) (by kernel_rfl) (fun _ _ _ h => h) (Or.inl ⟨by rfl, by (intro w hSw; (try dsimp only at hSw); (try obtain ⟨_, _, _, _⟩ := hSw); go_simp; try with_reducible rfl)⟩) (by assumption) ?_; simp only [Act.put, List.setIfInBounds_toArray, List.set_cons_succ, List.set_cons_zero]
                            refine htake (i := 12) (v := (.agg (dd.cells cv av bv).toArray)) rfl (by kernel_rfl) (by kernel_rfl) (by kernel_rfl) (fun _ _ _ h => h) (Or.inl ⟨by rfl, yl_loadR rfl rfl (Hft.out.len _ _ _) (fun _ h => h.2.1)⟩) (by assumption) ?_; simp only [Act.put, List.setIfInBounds_toArray, List.set_cons_succ, List.set_cons_zero]
                            refine htake (i := 16) (v := (.agg (dd.cells cv av bv).toArray)) rfl (by kernel_rfl) (by kernel_rfl) (by kernel_rfl) (fun _ _ _ h => h) (Or.inl ⟨by rfl, yl_loadR rfl rfl (Hft.out.len _ _ _) (fun _ h => h.2.1)⟩) (by assumption) ?_; simp only [Act.put, List.setIfInBounds_toArray, List.set_cons_succ, List.set_cons_zero]
                            refine wpAnyH_ready (rs := [13]) (by kernel_rfl) (by simp) ?_
                            refine hcons rfl rfl (fun K hK => ?_) ?_
                            · clear hHeld
                              have hcall := deedTo_ok dd Hok.out.small cv av bv _ (Hr.out.1.st0 hS) (Hr.out.2.1.st0 hS) (Hr.out.2.2.st0 hS)
                              refine owp_call rfl (by kernel_rfl) (args := #[.agg (dd.cells cv av bv).toArray]) rfl hcall ?_
                              clear hcall
                              rintro e w12 ⟨cv8, av8, bv8, x8, y8, z8, rfl, hc, hx8, hy8, hz8⟩
                              replace hS := hS.call0 hc
                              try simp only [List.cons_append, List.nil_append, List.append_nil, List.set_cons_zero, List.set_cons_succ] at hS
                              clear hc
                              refine ⟨_, rfl, ?_⟩
                              refine hK.out _ _ ⟨(hS.get 7 rfl).range 0 2059 (by rw [List.drop_zero, List.take_of_length_le (Nat.le_of_eq (Hft.out.len _ _ _))]), (hS.get 2 rfl).range 0 2059 (by rw [List.drop_zero, List.take_of_length_le (Nat.le_of_eq (Hft.out.len _ _ _))]), (hS.get 8 rfl).range 0 39 (by rw [List.drop_zero, List.take_of_length_le (Nat.le_of_eq Hor.out)]), (hS.get 3 rfl).range 0 39 (by rw [List.drop_zero, List.take_of_length_le (Nat.le_of_eq Hor.out)])⟩ (fun hHeld => ?_)
                              clear hK K
                              simp only [Act.put, List.setIfInBounds_toArray, List.set_cons_succ, List.set_cons_zero]
                              refine wpAnyH_ready (rs := [14]) (by kernel_rfl) (by simp) ?_
                              refine hcons rfl rfl (fun K hK => ?_) ?_
                              · clear hHeld
                                have hcall := deedTwin_ok dd Hok.out.small cv8 av8 bv8 _ (hx8.read (hS.get 12 rfl)) (hy8.read (hS.get 13 rfl)) (hz8.read (hS.get 14 rfl))
                                refine owp_call rfl (by kernel_rfl) (args := #[.agg (dd.cells cv8 av8 bv8).toArray]) rfl hcall ?_
                                clear hcall hx8 hy8 hz8
                                rintro e w13 ⟨cv9, av9, bv9, x9, y9, z9, rfl, hc, hx9, hy9, hz9⟩
                                replace hS := hS.call0 hc
                                try simp only [List.cons_append, List.nil_append, List.append_nil, List.set_cons_zero, List.set_cons_succ] at hS
                                clear hc
                                refine ⟨_, rfl, ?_⟩
                                refine hK.out _ _ ⟨(hS.get 7 rfl).range 0 2059 (by rw [List.drop_zero, List.take_of_length_le (Nat.le_of_eq (Hft.out.len _ _ _))]), (hS.get 2 rfl).range 0 2059 (by rw [List.drop_zero, List.take_of_length_le (Nat.le_of_eq (Hft.out.len _ _ _))]), (hS.get 8 rfl).range 0 39 (by rw [List.drop_zero, List.take_of_length_le (Nat.le_of_eq Hor.out)]), (hS.get 3 rfl).range 0 39 (by rw [List.drop_zero, List.take_of_length_le (Nat.le_of_eq Hor.out)])⟩ (fun hHeld => ?_)
                                clear hK K
                                simp only [Act.put, List.setIfInBounds_toArray, List.set_cons_succ, List.set_cons_zero]
                                refine wpAnyH_ready (rs := [15]) (by kernel_rfl) (by simp) ?_
                                refine hcons rfl rfl (fun K hK => ?_) ?_
                                · clear hHeld
                                  have hcall := deedFrom_ok dd Hok.out.small cv9 av9 bv9 _ (hx9.read (hS.get 15 rfl)) (hy9.read (hS.get 16 rfl)) (hz9.read (hS.get 17 rfl))
                                  refine owp_call rfl (by kernel_rfl) (args := #[.agg (dd.cells cv9 av9 bv9).toArray]) rfl hcall ?_
                                  clear hcall hx9 hy9 hz9
                                  rintro e w14 ⟨cv10, av10, bv10, x10, y10, z10, rfl, hc, hx10, hy10, hz10⟩
                                  replace hS := hS.call0 hc
                                  try simp only [List.cons_append, List.nil_append, List.append_nil, List.set_cons_zero, List.set_cons_succ] at hS
                                  clear hc
                                  refine ⟨_, rfl, ?_⟩
                                  refine hK.out _ _ ⟨(hS.get 7 rfl).range 0 2059 (by rw [List.drop_zero, List.take_of_length_le (Nat.le_of_eq (Hft.out.len _ _ _))]), (hS.get 2 rfl).range 0 2059 (by rw [List.drop_zero, List.take_of_length_le (Nat.le_of_eq (Hft.out.len _ _ _))]), (hS.get 8 rfl).range 0 39 (by rw [List.drop_zero, List.take_of_length_le (Nat.le_of_eq Hor.out)]), (hS.get 3 rfl).range 0 39 (by rw [List.drop_zero, List.take_of_length_le (Nat.le_of_eq Hor.out)])⟩ (fun hHeld => ?_)
                                  clear hK K
                                  simp only [Act.put, List.setIfInBounds_toArray, List.set_cons_succ, List.set_cons_zero]
                                  refine wpAnyH_ready (rs := [17]) (by kernel_rfl) (by simp) ?_
                                  refine hcons rfl rfl (fun K hK => ?_) ?_
                                  · clear hHeld
                                    have hcall := deedSame_ok dd Hok.out.small cv10 av10 bv10 cv av bv _ (hx10.read (hS.get 18 rfl)) (hy10.read (hS.get 19 rfl)) (hz10.read (hS.get 20 rfl)) (Hr.out.1.st0 hS) (Hr.out.2.1.st0 hS) (Hr.out.2.2.st0 hS)
                                    refine owp_call rfl (by kernel_rfl) (args := #[.agg (dd.cells cv10 av10 bv10).toArray, .agg (dd.cells cv av bv).toArray]) rfl hcall ?_
                                    clear hcall hx10 hy10 hz10
                                    rintro e w15 ⟨rfl, hc⟩
                                    replace hS := hS.call0 hc
                                    try simp only [List.cons_append, List.nil_append, List.append_nil, List.set_cons_zero, List.set_cons_succ] at hS
                                    clear hc
                                    refine ⟨_, rfl, ?_⟩
                                    refine hK.out _ _ ⟨(hS.get 7 rfl).range 0 2059 (by rw [List.drop_zero, List.take_of_length_le (Nat.le_of_eq (Hft.out.len _ _ _))]), (hS.get 2 rfl).range 0 2059 (by rw [List.drop_zero, List.take_of_length_le (Nat.le_of_eq (Hft.out.len _ _ _))]), (hS.get 8 rfl).range 0 39 (by rw [List.drop_zero, List.take_of_length_le (Nat.le_of_eq Hor.out)]), (hS.get 3 rfl).range 0 39 (by rw [List.drop_zero, List.take_of_length_le (Nat.le_of_eq Hor.out)])⟩ (fun hHeld => ?_)
                                    clear hK K
                                    simp only [Act.put, List.setIfInBounds_toArray, List.set_cons_succ, List.set_cons_zero]
                                    refine htake (i := 18) (v := (.bool true)) rfl (by kernel_rfl) (by kernel_rfl) (by kernel_rfl) (fun _ _ _ h => h) (Or.inl ⟨by rfl, by (intro w hSw; (try dsimp only at hSw); (try obtain ⟨_, _, _, _⟩ := hSw); go_simp; try with_reducible rfl)⟩) (by assumption) ?_; simp only [Act.put, List.setIfInBounds_toArray, List.set_cons_succ, List.set_cons_zero]
                                    refine htake (i := 19) (v := (.bool true)) rfl (by kernel_rfl) (by kernel_rfl) (by kernel_rfl) (fun _ _ _ h => h) (Or.inl ⟨by rfl, by (intro w hSw; (try dsimp only at hSw); (try obtain ⟨_, _, _, _⟩ := hSw); go_simp; try with_reducible rfl)⟩) (by assumption) ?_; simp only [Act.put, List.setIfInBounds_toArray, List.set_cons_succ, List.set_cons_zero]
                                    refine htake (i := 20) (v := (.agg o.cells.toArray)) rfl (by kernel_rfl) (by kernel_rfl) (by kernel_rfl) (fun _ _ _ h => h) (Or.inl ⟨by rfl, yl_loadR rfl rfl Hor.out (fun _ h => h.2.2.1)⟩) (by assumption) ?_; simp only [Act.put, List.setIfInBounds_toArray, List.set_cons_succ, List.set_cons_zero]
                                    refine htake (i := 21) (v := (.agg o.cells.toArray)) rfl (by kernel_rfl) (by kernel_rfl) (by kernel_rfl) (fun _ _ _ h => h) (Or.inl ⟨by rfl, yl_loadR rfl rfl Hor.out (fun _ h => h.2.2.2)⟩) (by assumption) ?_; simp only [Act.put, List.setIfInBounds_toArray, List.set_cons_succ, List.set_cons_zero]
                                    refine wpAnyH_ready (rs := [22]) (by kernel_rfl) (by simp) ?_
                                    refine hcons rfl rfl (fun K hK => ?_) ?_
                                    · clear hHeld
                                      refine owp_call rfl (by kernel_rfl) (args := #[.agg o.cells.toArray]) rfl (opTo_ok o Ho.out.cond.hash _) ?_
                                      rintro e w16 ⟨rfl, hc⟩
                                      replace hS := hS.call0 hc
                                      try simp only [List.cons_append, List.nil_append, List.append_nil, List.set_cons_zero, List.set_cons_succ] at hS
                                      clear hc
                                      refine ⟨_, rfl, ?_⟩
                                      refine hK.out _ _ ⟨(hS.get 7 rfl).range 0 2059 (by rw [List.drop_zero, List.take_of_length_le (Nat.le_of_eq (Hft.out.len _ _ _))]), (hS.get 2 rfl).range 0 2059 (by rw [List.drop_zero, List.take_of_length_le (Nat.le_of_eq (Hft.out.len _ _ _))]), (hS.get 8 rfl).range 0 39 (by rw [List.drop_zero, List.take_of_length_le (Nat.le_of_eq Hor.out)]), (hS.get 3 rfl).range 0 39 (by rw [List.drop_zero, List.take_of_length_le (Nat.le_of_eq Hor.out)])⟩ (fun hHeld => ?_)
                                      clear hK K
                                      simp only [Act.put, List.setIfInBounds_toArray, List.set_cons_succ, List.set_cons_zero]
                                      refine htake (i := 23) (v := (.bool true)) rfl (by kernel_rfl) (by kernel_rfl) (by kernel_rfl) (fun _ _ _ h => h) (Or.inl ⟨by rfl, (fun _ _ => run_eql_same rfl e_op (by decide) gd_op rfl rfl Hk.out)⟩) (by assumption) ?_; simp only [Act.put, List.setIfInBounds_toArray, List.set_cons_succ, List.set_cons_zero]
                                      refine htake (i := 24) (v := (.bool true)) rfl (by kernel_rfl) (by kernel_rfl) (by kernel_rfl) (fun _ _ _ h => h) (Or.inl ⟨by rfl, by (intro w hSw; (try dsimp only at hSw); (try obtain ⟨_, _, _, _⟩ := hSw); go_simp; try with_reducible rfl)⟩) (by assumption) ?_; simp only [Act.put, List.setIfInBounds_toArray, List.set_cons_succ, List.set_cons_zero]
                                      refine htake (i := 25) (v := (.bool true)) rfl (by kernel_rfl) (by kernel_rfl) (by kernel_rfl) (fun _ _ _ h => h) (Or.inl ⟨by rfl, by (intro w hSw; (try dsimp only at hSw); (try obtain ⟨_, _, _, _⟩ := hSw); go_simp; try with_reducible rfl)⟩) (by assumption) ?_; simp only [Act.put, List.setIfInBounds_toArray, List.set_cons_succ, List.set_cons_zero]
                                      refine htake (i := 26) (v := (.pointer (some ⟨b, 0, none⟩))) rfl (by kernel_rfl) (by kernel_rfl) (by kernel_rfl) (fun _ _ _ h => h) (Or.inl ⟨by rfl, by (intro w hSw; (try dsimp only at hSw); (try obtain ⟨_, _, _, _⟩ := hSw); go_simp; try with_reducible rfl)⟩) (by assumption) ?_; simp only [Act.put, List.setIfInBounds_toArray, List.set_cons_succ, List.set_cons_zero]
                                      refine wpAnyH_ready (rs := [27]) (by kernel_rfl) (by simp) ?_
                                      refine hcons rfl rfl (fun K hK => ?_) ?_
                                      · clear hHeld
                                        have hin := Hback.out _ _ _ _ _ (hS.pick [0, 1] rfl (by decide))
                                        refine owp_call rfl (by kernel_rfl) (args := #[.pointer (some ⟨b, 0, none⟩)]) rfl (end_ok b _ ⟨[], 0⟩ (Nat.zero_le _) _ (hS.get 0 rfl) hin) ?_
                                        clear hin
                                        rintro e w17 ⟨rfl, v17, hc, _⟩
                                        rw [show (PS.mk [] 0).fin.bad = 0 by simp [PS.fin]] at hc ⊢
                                        replace hS := hS.call1 0 rfl hc
                                        try simp only [List.cons_append, List.nil_append, List.append_nil, List.set_cons_zero, List.set_cons_succ] at hS
                                        clear hc
                                        refine ⟨_, rfl, ?_⟩
                                        refine hK.out _ _ ⟨(hS.get 7 rfl).range 0 2059 (by rw [List.drop_zero, List.take_of_length_le (Nat.le_of_eq (Hft.out.len _ _ _))]), (hS.get 2 rfl).range 0 2059 (by rw [List.drop_zero, List.take_of_length_le (Nat.le_of_eq (Hft.out.len _ _ _))]), (hS.get 8 rfl).range 0 39 (by rw [List.drop_zero, List.take_of_length_le (Nat.le_of_eq Hor.out)]), (hS.get 3 rfl).range 0 39 (by rw [List.drop_zero, List.take_of_length_le (Nat.le_of_eq Hor.out)])⟩ (fun hHeld => ?_)
                                        clear hK K
                                        simp only [Act.put, List.setIfInBounds_toArray, List.set_cons_succ, List.set_cons_zero]
                                        refine htake (i := 28) (v := (.bool true)) rfl (by kernel_rfl) (by kernel_rfl) (by kernel_rfl) (fun _ _ _ h => h) (Or.inl ⟨by rfl, by (intro w hSw; (try dsimp only at hSw); (try obtain ⟨_, _, _, _⟩ := hSw); go_simp; try with_reducible rfl)⟩) (by assumption) ?_; simp only [Act.put, List.setIfInBounds_toArray, List.set_cons_succ, List.set_cons_zero]
                                        refine htake (i := 29) (v := (.bool true)) rfl (by kernel_rfl) (by kernel_rfl) (by kernel_rfl) (fun _ _ _ h => h) (Or.inl ⟨by rfl, by (intro w hSw; (try dsimp only at hSw); (try obtain ⟨_, _, _, _⟩ := hSw); go_simp; try with_reducible rfl)⟩) (by assumption) ?_; simp only [Act.put, List.setIfInBounds_toArray, List.set_cons_succ, List.set_cons_zero]
                                        refine htake (i := 30) (v := (.bool true)) rfl (by kernel_rfl) (by kernel_rfl) (by kernel_rfl) (fun _ _ _ h => h) (Or.inl ⟨by rfl, by (intro w hSw; (try dsimp only at hSw); (try obtain ⟨_, _, _, _⟩ := hSw); go_simp; try with_reducible rfl)⟩) (by assumption) ?_; simp only [Act.put, List.setIfInBounds_toArray, List.set_cons_succ, List.set_cons_zero]
                                        refine wpAnyH_done (by kernel_rfl) ?_ _
                                        clear hHeld
                                        go_wp2_with fail
                                        go_ret
                                        exact ⟨rfl, hS.pick [] rfl (by decide)⟩
                                      exact AllReadyH.nil
                                    exact AllReadyH.nil
                                  exact AllReadyH.nil
                                exact AllReadyH.nil
                              exact AllReadyH.nil
                            exact AllReadyH.nil
                          exact AllReadyH.nil
                        exact AllReadyH.nil
                      exact AllReadyH.nil
                    · have hr1 : ((d.s.round : Int) == 0) = false := by simp [hr0]
                      have Hbk := Lib.hid (Hd.out.back Hsides.out H8.out hr0)
                      clear hr0
                      go_upto_region 13 with (first
                        | ((with_reducible show wpList _ _ _ (Oper.mk (some 74) (Op.load _ _) _ _ _ _ :: _) _ _); refine wpl rfl ?_; refine owp_load1 hS 0 rfl rfl rfl G1.out ?_))
                      rw [← Hos.out, ← Hcs2.out] at hS
                      have hmid : ∃ dd cv av bv, St w [] _ [some (gd, Deed.cells dd cv av bv, 69), some (go, o.cells, 93)] ∧ BackOk dd ∧ BackRows w dd cv av bv := ⟨_, _, _, _, hS, Hbk.out, Hr.out⟩
                      clear Hr Hbk hr1
                      -- here: hmid
                      clear hS
                      obtain ⟨dd, cv, av, bv, hS, hok, hrr⟩ := hmid
                      have Hok := Lib.hid hok
                      have Hr := Lib.hid hrr
                      have Hft := Lib.hid hok.small.fit
                      have Hread := Lib.hid (fun u w' h => backRead_ok dd hok u w' h)
                      have Hoo := Lib.hid (Ho.out.okOf Hk.out Hside.out)
                      have Htake := Lib.hid (fun b v w' h1 h2 => takeBack_ok o Hoo.out Hside.out b v w' h1 h2)
                      have Hlay := Lib.hid (layOp_length o Ho.out.cond.hash)
                      have Hor := Lib.hid (Oop.len o Ho.out.cond.hash)
                      clear hok hrr
                      go_wp2_with (first
                        | ((with_reducible show wpList _ _ _ (Oper.mk (some 79) (Op.load _ _) _ _ _ _ :: _) _ _); refine wpl rfl ?_; refine owp_loadW hS 0 rfl rfl rfl (Hft.out.len _ _ _) ?_))
                      refine (deedTo_ok dd Hok.out.small cv av bv _ (Hr.out.1.st0 hS) (Hr.out.2.1.st0 hS) (Hr.out.2.2.st0 hS)).mono ?_
                      rintro e w2 ⟨cv2, av2, bv2, x2, y2, z2, rfl, hc, hx, hy, hz⟩
                      replace hS := hS.call0 hc
                      try simp only [List.cons_append, List.nil_append, List.append_nil, List.set_cons_zero, List.set_cons_succ] at hS
                      clear hc
                      go_wp2_with fail
                      refine (deedBytes_ok dd Hok.out.ok cv2 av2 bv2 _ (hx.read (hS.get 2 rfl)) (hy.read (hS.get 3 rfl)) (hz.read (hS.get 4 rfl)) (Far.row hx hS 2 rfl) (Far.row hy hS 3 rfl) (Far.row hz hS 4 rfl) (Nat.le_trans Hok.out.small.s.conds (by decide)) (Nat.le_trans Hok.out.small.wa (by decide)) (Nat.le_trans Hok.out.small.wb (by decide))).mono ?_
                      rintro e w3 ⟨v3, x3, rfl, hrow3, hc⟩
                      replace hS := hS.call0 hc
                      try simp only [List.cons_append, List.nil_append, List.append_nil, List.set_cons_zero, List.set_cons_succ] at hS
                      clear hc hx hy hz
                      have Hrow3 := Lib.hid hrow3
                      obtain ⟨a3, c3, rfl⟩ := hrow3.isSl
                      clear hrow3
                      go_wp2_with fail
                      refine (Hread.out _ _ (Hrow3.out.read (hS.get 5 rfl))).mono ?_
                      rintro e w4 ⟨cv4, av4, bv4, x4, y4, z4, rfl, hc, hx, hy, hz⟩
                      replace hS := hS.call0 hc
                      try simp only [List.cons_append, List.nil_append, List.append_nil, List.set_cons_zero, List.set_cons_succ] at hS
                      clear hc
                      obtain ⟨a4, c4, rfl⟩ := hx.isSl
                      obtain ⟨a5, c5, rfl⟩ := hy.isSl
                      obtain ⟨a6, c6, rfl⟩ := hz.isSl
                      have Hx := Lib.hid hx
                      have Hy := Lib.hid hy
                      have Hz := Lib.hid hz
                      clear hx hy hz
                      go_wp2_with (first
                        | ((with_reducible show wpList _ _ _ (Oper.mk (some 7) (Op.alloc _) _ _ _ _ :: _) _ _); refine wpl rfl ?_; refine (owp_allocAt hS 7 rfl rfl ?_); clear hS; intro gx _ hS; simp only [List.cons_append, List.nil_append] at hS)
                        | ((with_reducible show wpList _ _ _ (Oper.mk _ (Op.store _ _ _) _ _ _ _ :: _) _ _); refine wpl rfl ?_; refine (owp_storeW hS 9 rfl rfl rfl rfl (Hft.out.len _ _ _) (Deed.Fit.zero.len _ _ _) (Deed.one _ _ _ _ rfl rfl rfl) ?_); clear hS; intro _ hS; try simp only [List.cons_append, List.nil_append, List.append_nil, List.set_cons_zero, List.set_cons_succ] at hS)
                        | ((with_reducible show wpList _ _ _ (Oper.mk (some 85) (Op.load _ _) _ _ _ _ :: _) _ _); refine wpl rfl ?_; refine owp_loadW hS 1 rfl rfl rfl Hor.out ?_))
                      refine (opTo_ok o Ho.out.cond.hash _).mono ?_
                      rintro e w5 ⟨rfl, hc⟩
                      replace hS := hS.call0 hc
                      try simp only [List.cons_append, List.nil_append, List.append_nil, List.set_cons_zero, List.set_cons_succ] at hS
                      clear hc
                      go_wp2_with fail
                      refine (layOp_ok o Hoo.out none (.slice none 0 0) [] _ (fun _ _ _ h => by cases h) (RowV.nil _ _) (by simp)).mono ?_
                      rintro e w6 ⟨v6, x6, rfl, hrow6, hc⟩
                      rw [List.nil_append] at hrow6
                      replace hS := hS.call0 hc
                      try simp only [List.cons_append, List.nil_append, List.append_nil, List.set_cons_zero, List.set_cons_succ] at hS
                      clear hc
                      obtain ⟨a7, c7, rfl⟩ := hrow6.isSl
                      have Hrow6 := Lib.hid hrow6
                      clear hrow6
                      go_wp2_with fail
                      refine (of_ok2 _ (layOp o) _ (Hrow6.out.read (hS.get 10 rfl)) (by rw [Hlay.out]; omega)).mono ?_
                      rintro e w7 ⟨b, g, cap, sp, rfl, hc, hcap, hcm⟩
                      replace hS := hS.call0 hc
                      try simp only [List.cons_append, List.nil_append, List.append_nil, List.set_cons_zero, List.set_cons_succ] at hS
                      clear hc
                      replace hS := hS.pick (L' := [inBlk b (.slice (some ⟨g, 0, none⟩) (layOp o).length cap) 0, backBlk g (layOp o) sp, some (gd, dd.cells cv av bv, 69), some (go, o.cells, 93), x4, y4, z4, some (gx, dd.cells (.slice a4 dd.s.conds.length c4) (.slice a5 dd.a.way.length c5) (.slice a6 dd.b.way.length c6), 42)]) [11, 12, 0, 1, 6, 7, 8, 9] rfl (by decide)
                      go_wp2_with fail
                      refine (Htake.out b _ _ (hS.get 0 rfl) (back_inv hS hcap hcm)).mono ?_
                      rintro e w8 ⟨rfl, v8, hc, hsub⟩
                      replace hS := hS.call1 0 rfl hc
                      try simp only [List.cons_append, List.nil_append, List.append_nil, List.set_cons_zero, List.set_cons_succ] at hS
                      clear hc
                      have Hback := Lib.hid (fun (A : List Nat) (w' : World) (v : Value) (bad : Int) (L : List Ent) (h : St w A w' (inBlk b v bad :: backBlk g (layOp o) sp :: L)) => hsub _ b (back_inv h hcap hcm))
                      have Hk := Lib.hid (Oop.like o Ho.out.cond.hash)
                      have Hoz := Lib.hid (Oop.len Oop.zero (zb_length 32))
                      clear hsub hcap hcm
                      generalize layOp o = lo at *
                      go_wp2_with (first
                        | ((with_reducible show wpList _ _ _ (Oper.mk (some 10) (Op.alloc _) _ _ _ _ :: _) _ _); refine wpl rfl ?_; refine (owp_allocAt hS 10 rfl rfl ?_); clear hS; intro gp _ hS; simp only [List.cons_append, List.nil_append] at hS)
                        | ((with_reducible show wpList _ _ _ (Oper.mk _ (Op.store _ _ _) _ _ _ _ :: _) _ _); refine wpl rfl ?_; refine (owp_storeW hS 8 rfl rfl rfl rfl (Hor.out) (Hoz.out) (Oop.one _) ?_); clear hS; intro _ hS; try simp only [List.cons_append, List.nil_append, List.append_nil, List.set_cons_zero, List.set_cons_succ] at hS))
                      try simp only [Act.put, List.setIfInBounds_toArray, List.set_cons_succ, List.set_cons_zero]
                      replace hS := hS.drew
                      refine wp_region_held_drew (S := (fun w' => CellsAt w' ⟨gx, 0, none⟩ (dd.cells (.slice a4 dd.s.conds.length c4) (.slice a5 dd.a.way.length c5) (.slice a6 dd.b.way.length c6)) ∧ CellsAt w' ⟨gd, 0, none⟩ (dd.cells cv av bv) ∧ CellsAt w' ⟨gp, 0, none⟩ o.cells ∧ CellsAt w' ⟨go, 0, none⟩ o.cells)) (by kernel_rfl) ⟨(hS.get 7 rfl).range 0 2059 (by rw [List.drop_zero, List.take_of_length_le (Nat.le_of_eq (Hft.out.len _ _ _))]), (hS.get 2 rfl).range 0 2059 (by rw [List.drop_zero, List.take_of_length_le (Nat.le_of_eq (Hft.out.len _ _ _))]), (hS.get 8 rfl).range 0 39 (by rw [List.drop_zero, List.take_of_length_le (Nat.le_of_eq Hor.out)]), (hS.get 3 rfl).range 0 39 (by rw [List.drop_zero, List.take_of_length_le (Nat.le_of_eq Hor.out)])⟩ (fun hHeld => ?_)
                      refine wpAnyH_ready (rs := [0]) (by kernel_rfl) (by simp) ?_
                      refine hcons rfl rfl (fun K hK => ?_) ?_
                      · clear hHeld
                        refine owp_call rfl (by kernel_rfl) (args := #[]) rfl (awakeD_ok _) ?_
                        rintro e w9 ⟨rfl, hc⟩
                        replace hS := hS.call0 hc
                        try simp only [List.cons_append, List.nil_append, List.append_nil, List.set_cons_zero, List.set_cons_succ] at hS
                        clear hc
                        refine ⟨_, rfl, ?_⟩
                        refine hK.out _ _ ⟨(hS.get 7 rfl).range 0 2059 (by rw [List.drop_zero, List.take_of_length_le (Nat.le_of_eq (Hft.out.len _ _ _))]), (hS.get 2 rfl).range 0 2059 (by rw [List.drop_zero, List.take_of_length_le (Nat.le_of_eq (Hft.out.len _ _ _))]), (hS.get 8 rfl).range 0 39 (by rw [List.drop_zero, List.take_of_length_le (Nat.le_of_eq Hor.out)]), (hS.get 3 rfl).range 0 39 (by rw [List.drop_zero, List.take_of_length_le (Nat.le_of_eq Hor.out)])⟩ (fun hHeld => ?_)
                        clear hK K
                        simp only [Act.put, List.setIfInBounds_toArray, List.set_cons_succ, List.set_cons_zero]
                        refine htake (i := 1) (v := (.bool true)) rfl (by kernel_rfl) (by kernel_rfl) (by kernel_rfl) (fun _ _ _ h => h) (Or.inl ⟨by rfl, by (intro w hSw; (try dsimp only at hSw); (try obtain ⟨_, _, _, _⟩ := hSw); go_simp; try with_reducible rfl)⟩) (by assumption) ?_; simp only [Act.put, List.setIfInBounds_toArray, List.set_cons_succ, List.set_cons_zero]
                        refine htake (i := 2) (v := (.int .i64 0)) rfl (by kernel_rfl) (by kernel_rfl) (by kernel_rfl) (fun _ _ _ h => h) (Or.inl ⟨by rfl, by (intro w hSw; (try dsimp only at hSw); (try obtain ⟨_, _, _, _⟩ := hSw); go_simp; try with_reducible rfl)⟩) (by assumption) ?_; simp only [Act.put, List.setIfInBounds_toArray, List.set_cons_succ, List.set_cons_zero]
                        refine htake (i := 3) (v := (.bool true)) rfl (by kernel_rfl) (by kernel_rfl) (by kernel_rfl) (fun _ _ _ h => h) (Or.inl ⟨by rfl, by (intro w hSw; (try dsimp only at hSw); (try obtain ⟨_, _, _, _⟩ := hSw); go_simp; try with_reducible rfl)⟩) (by assumption) ?_; simp only [Act.put, List.setIfInBounds_toArray, List.set_cons_succ, List.set_cons_zero]
                        refine htake (i := 4) (v := (.bool true)) rfl (by kernel_rfl) (by kernel_rfl) (by kernel_rfl) (fun _ _ _ h => h) (Or.inl ⟨by rfl, by (intro w hSw; (try dsimp only at hSw); (try obtain ⟨_, _, _, _⟩ := hSw); go_simp; try with_reducible rfl)⟩) (by assumption) ?_; simp only [Act.put, List.setIfInBounds_toArray, List.set_cons_succ, List.set_cons_zero]
                        refine htake (i := 5) (v := (.bool true)) rfl (by kernel_rfl) (by kernel_rfl) (by kernel_rfl) (fun _ _ _ h => h) (Or.inl ⟨by rfl, by (intro w hSw; (try dsimp only at hSw); (try obtain ⟨_, _, _, _⟩ := hSw); go_simp; try with_reducible rfl)⟩) (by assumption) ?_; simp only [Act.put, List.setIfInBounds_toArray, List.set_cons_succ, List.set_cons_zero]
                        refine htake (i := 6) (v := (.agg (dd.cells (.slice a4 dd.s.conds.length c4) (.slice a5 dd.a.way.length c5) (.slice a6 dd.b.way.length c6)).toArray)) rfl (by kernel_rfl) (by kernel_rfl) (by kernel_rfl) (fun _ _ _ h => h) (Or.inl ⟨by rfl, yl_loadR rfl rfl (Hft.out.len _ _ _) (fun _ h => h.1)⟩) (by assumption) ?_; simp only [Act.put, List.setIfInBounds_toArray, List.set_cons_succ, List.set_cons_zero]
                        refine htake (i := 8) (v := (.agg (dd.cells cv av bv).toArray)) rfl (by kernel_rfl) (by kernel_rfl) (by kernel_rfl) (fun _ _ _ h => h) (Or.inl ⟨by rfl, yl_loadR rfl rfl (Hft.out.len _ _ _) (fun _ h => h.2.1)⟩) (by assumption) ?_; simp only [Act.put, List.setIfInBounds_toArray, List.set_cons_succ, List.set_cons_zero]
                        refine wpAnyH_ready (rs := [7]) (by kernel_rfl) (by simp) ?_
                        refine hcons rfl rfl (fun K hK => ?_) ?_
                        · clear hHeld
                          have hcall := deedFrom_ok dd Hok.out.small (.slice a4 dd.s.conds.length c4) (.slice a5 dd.a.way.length c5) (.slice a6 dd.b.way.length c6) _ (Hx.out.read (hS.get 4 rfl)) (Hy.out.read (hS.get 5 rfl)) (Hz.out.read (hS.get 6 rfl))
                          refine owp_call rfl (by kernel_rfl) (args := #[.agg (dd.cells (.slice a4 dd.s.conds.length c4) (.slice a5 dd.a.way.length c5) (.slice a6 dd.b.way.length c6)).toArray]) rfl hcall ?_
                          clear hcall
                          rintro e w10 ⟨cv7, av7, bv7, x7, y7, z7, rfl, hc, hx7, hy7, hz7⟩
                          replace hS := hS.call0 hc
                          try simp only [List.cons_append, List.nil_append, List.append_nil, List.set_cons_zero, List.set_cons_succ] at hS
                          clear hc
                          refine ⟨_, rfl, ?_⟩
                          refine hK.out _ _ ⟨(hS.get 7 rfl).range 0 2059 (by rw [List.drop_zero, List.take_of_length_le (Nat.le_of_eq (Hft.out.len _ _ _))]), (hS.get 2 rfl).range 0 2059 (by rw [List.drop_zero, List.take_of_length_le (Nat.le_of_eq (Hft.out.len _ _ _))]), (hS.get 8 rfl).range 0 39 (by rw [List.drop_zero, List.take_of_length_le (Nat.le_of_eq Hor.out)]), (hS.get 3 rfl).range 0 39 (by rw [List.drop_zero, List.take_of_length_le (Nat.le_of_eq Hor.out)])⟩ (fun hHeld => ?_)
                          clear hK K
                          simp only [Act.put, List.setIfInBounds_toArray, List.set_cons_succ, List.set_cons_zero]
                          refine wpAnyH_ready (rs := [9]) (by kernel_rfl) (by simp) ?_
                          refine hcons rfl rfl (fun K hK => ?_) ?_
                          · clear hHeld
                            have hcall := deedSame_ok dd Hok.out.small cv7 av7 bv7 cv av bv _ (hx7.read (hS.get 9 rfl)) (hy7.read (hS.get 10 rfl)) (hz7.read (hS.get 11 rfl)) (Hr.out.1.st0 hS) (Hr.out.2.1.st0 hS) (Hr.out.2.2.st0 hS)
                            refine owp_call rfl (by kernel_rfl) (args := #[.agg (dd.cells cv7 av7 bv7).toArray, .agg (dd.cells cv av bv).toArray]) rfl hcall ?_
                            clear hcall
                            rintro e w11 ⟨rfl, hc⟩
                            replace hS := hS.call0 hc
                            try simp only [List.cons_append, List.nil_append, List.append_nil, List.set_cons_zero, List.set_cons_succ] at hS
                            clear hc hx7 hy7 hz7
                            refine ⟨_, rfl, ?_⟩
                            refine hK.out _ _ ⟨(hS.get 7 rfl).range 0 2059 (by rw [List.drop_zero, List.take_of_length_le (Nat.le_of_eq (Hft.out.len _ _ _))]), (hS.get 2 rfl).range 0 2059 (by rw [List.drop_zero, List.take_of_length_le (Nat.le_of_eq (Hft.out.len _ _ _))]), (hS.get 8 rfl).range 0 39 (by rw [List.drop_zero, List.take_of_length_le (Nat.le_of_eq Hor.out)]), (hS.get 3 rfl).range 0 39 (by rw [List.drop_zero, List.take_of_length_le (Nat.le_of_eq Hor.out)])⟩ (fun hHeld => ?_)
                            clear hK K
                            simp only [Act.put, List.setIfInBounds_toArray, List.set_cons_succ, List.set_cons_zero]
                            refine htake (i := 10) (v := (.bool true)) rfl (by kernel_rfl) (by kernel_rfl) (by kernel_rfl) (fun _ _ _ h => h) (Or.inl ⟨by rfl, by (intro w hSw; (try dsimp only at hSw); (try obtain ⟨_, _, _, _⟩ := hSw); go_simp; try with_reducible rfl)⟩) (by assumption) ?_; simp only [Act.put, List.setIfInBounds_toArray, List.set_cons_succ, List.set_cons_zero]
                            refine htake (i := 11) (v := (.bool true)) rfl (by kernel_rfl) (by kernel_rfl) (by kernel_rfl) (fun _ _ _ h => h) (Or.inl ⟨by rfl, by (intro w hSw; (try dsimp only at hSw); (try obtain ⟨_, _, _, _⟩ := hSw); go_simp; try with_reducible rfl)⟩) (by assumption) ?_; simp only [Act.put, List.setIfInBounds_toArray, List.set_cons_succ, List.set_cons_zero]
                            refine htake (i := 12) (v := (.agg (dd.cells cv av bv).toArray)) rfl (by kernel_rfl) (by kernel_rfl) (by kernel_rfl) (fun _ _ _ h => h) (Or.inl ⟨by rfl, yl_loadR rfl rfl (Hft.out.len _ _ _) (fun _ h => h.2.1)⟩) (by assumption) ?_; simp only [Act.put, List.setIfInBounds_toArray, List.set_cons_succ, List.set_cons_zero]
                            refine htake (i := 16) (v := (.agg (dd.cells cv av bv).toArray)) rfl (by kernel_rfl) (by kernel_rfl) (by kernel_rfl) (fun _ _ _ h => h) (Or.inl ⟨by rfl, yl_loadR rfl rfl (Hft.out.len _ _ _) (fun _ h => h.2.1)⟩) (by assumption) ?_; simp only [Act.put, List.setIfInBounds_toArray, List.set_cons_succ, List.set_cons_zero]
                            refine wpAnyH_ready (rs := [13]) (by kernel_rfl) (by simp) ?_
                            refine hcons rfl rfl (fun K hK => ?_) ?_
                            · clear hHeld
                              have hcall := deedTo_ok dd Hok.out.small cv av bv _ (Hr.out.1.st0 hS) (Hr.out.2.1.st0 hS) (Hr.out.2.2.st0 hS)
                              refine owp_call rfl (by kernel_rfl) (args := #[.agg (dd.cells cv av bv).toArray]) rfl hcall ?_
                              clear hcall
                              rintro e w12 ⟨cv8, av8, bv8, x8, y8, z8, rfl, hc, hx8, hy8, hz8⟩
                              replace hS := hS.call0 hc
                              try simp only [List.cons_append, List.nil_append, List.append_nil, List.set_cons_zero, List.set_cons_succ] at hS
                              clear hc
                              refine ⟨_, rfl, ?_⟩
                              refine hK.out _ _ ⟨(hS.get 7 rfl).range 0 2059 (by rw [List.drop_zero, List.take_of_length_le (Nat.le_of_eq (Hft.out.len _ _ _))]), (hS.get 2 rfl).range 0 2059 (by rw [List.drop_zero, List.take_of_length_le (Nat.le_of_eq (Hft.out.len _ _ _))]), (hS.get 8 rfl).range 0 39 (by rw [List.drop_zero, List.take_of_length_le (Nat.le_of_eq Hor.out)]), (hS.get 3 rfl).range 0 39 (by rw [List.drop_zero, List.take_of_length_le (Nat.le_of_eq Hor.out)])⟩ (fun hHeld => ?_)
                              clear hK K
                              simp only [Act.put, List.setIfInBounds_toArray, List.set_cons_succ, List.set_cons_zero]
                              refine wpAnyH_ready (rs := [14]) (by kernel_rfl) (by simp) ?_
                              refine hcons rfl rfl (fun K hK => ?_) ?_
                              · clear hHeld
                                have hcall := deedTwin_ok dd Hok.out.small cv8 av8 bv8 _ (hx8.read (hS.get 12 rfl)) (hy8.read (hS.get 13 rfl)) (hz8.read (hS.get 14 rfl))
                                refine owp_call rfl (by kernel_rfl) (args := #[.agg (dd.cells cv8 av8 bv8).toArray]) rfl hcall ?_
                                clear hcall hx8 hy8 hz8
                                rintro e w13 ⟨cv9, av9, bv9, x9, y9, z9, rfl, hc, hx9, hy9, hz9⟩
                                replace hS := hS.call0 hc
                                try simp only [List.cons_append, List.nil_append, List.append_nil, List.set_cons_zero, List.set_cons_succ] at hS
                                clear hc
                                refine ⟨_, rfl, ?_⟩
                                refine hK.out _ _ ⟨(hS.get 7 rfl).range 0 2059 (by rw [List.drop_zero, List.take_of_length_le (Nat.le_of_eq (Hft.out.len _ _ _))]), (hS.get 2 rfl).range 0 2059 (by rw [List.drop_zero, List.take_of_length_le (Nat.le_of_eq (Hft.out.len _ _ _))]), (hS.get 8 rfl).range 0 39 (by rw [List.drop_zero, List.take_of_length_le (Nat.le_of_eq Hor.out)]), (hS.get 3 rfl).range 0 39 (by rw [List.drop_zero, List.take_of_length_le (Nat.le_of_eq Hor.out)])⟩ (fun hHeld => ?_)
                                clear hK K
                                simp only [Act.put, List.setIfInBounds_toArray, List.set_cons_succ, List.set_cons_zero]
                                refine wpAnyH_ready (rs := [15]) (by kernel_rfl) (by simp) ?_
                                refine hcons rfl rfl (fun K hK => ?_) ?_
                                · clear hHeld
                                  have hcall := deedFrom_ok dd Hok.out.small cv9 av9 bv9 _ (hx9.read (hS.get 15 rfl)) (hy9.read (hS.get 16 rfl)) (hz9.read (hS.get 17 rfl))
                                  refine owp_call rfl (by kernel_rfl) (args := #[.agg (dd.cells cv9 av9 bv9).toArray]) rfl hcall ?_
                                  clear hcall hx9 hy9 hz9
                                  rintro e w14 ⟨cv10, av10, bv10, x10, y10, z10, rfl, hc, hx10, hy10, hz10⟩
                                  replace hS := hS.call0 hc
                                  try simp only [List.cons_append, List.nil_append, List.append_nil, List.set_cons_zero, List.set_cons_succ] at hS
                                  clear hc
                                  refine ⟨_, rfl, ?_⟩
                                  refine hK.out _ _ ⟨(hS.get 7 rfl).range 0 2059 (by rw [List.drop_zero, List.take_of_length_le (Nat.le_of_eq (Hft.out.len _ _ _))]), (hS.get 2 rfl).range 0 2059 (by rw [List.drop_zero, List.take_of_length_le (Nat.le_of_eq (Hft.out.len _ _ _))]), (hS.get 8 rfl).range 0 39 (by rw [List.drop_zero, List.take_of_length_le (Nat.le_of_eq Hor.out)]), (hS.get 3 rfl).range 0 39 (by rw [List.drop_zero, List.take_of_length_le (Nat.le_of_eq Hor.out)])⟩ (fun hHeld => ?_)
                                  clear hK K
                                  simp only [Act.put, List.setIfInBounds_toArray, List.set_cons_succ, List.set_cons_zero]
                                  refine wpAnyH_ready (rs := [17]) (by kernel_rfl) (by simp) ?_
                                  refine hcons rfl rfl (fun K hK => ?_) ?_
                                  · clear hHeld
                                    have hcall := deedSame_ok dd Hok.out.small cv10 av10 bv10 cv av bv _ (hx10.read (hS.get 18 rfl)) (hy10.read (hS.get 19 rfl)) (hz10.read (hS.get 20 rfl)) (Hr.out.1.st0 hS) (Hr.out.2.1.st0 hS) (Hr.out.2.2.st0 hS)
                                    refine owp_call rfl (by kernel_rfl) (args := #[.agg (dd.cells cv10 av10 bv10).toArray, .agg (dd.cells cv av bv).toArray]) rfl hcall ?_
                                    clear hcall hx10 hy10 hz10
                                    rintro e w15 ⟨rfl, hc⟩
                                    replace hS := hS.call0 hc
                                    try simp only [List.cons_append, List.nil_append, List.append_nil, List.set_cons_zero, List.set_cons_succ] at hS
                                    clear hc
                                    refine ⟨_, rfl, ?_⟩
                                    refine hK.out _ _ ⟨(hS.get 7 rfl).range 0 2059 (by rw [List.drop_zero, List.take_of_length_le (Nat.le_of_eq (Hft.out.len _ _ _))]), (hS.get 2 rfl).range 0 2059 (by rw [List.drop_zero, List.take_of_length_le (Nat.le_of_eq (Hft.out.len _ _ _))]), (hS.get 8 rfl).range 0 39 (by rw [List.drop_zero, List.take_of_length_le (Nat.le_of_eq Hor.out)]), (hS.get 3 rfl).range 0 39 (by rw [List.drop_zero, List.take_of_length_le (Nat.le_of_eq Hor.out)])⟩ (fun hHeld => ?_)
                                    clear hK K
                                    simp only [Act.put, List.setIfInBounds_toArray, List.set_cons_succ, List.set_cons_zero]
                                    refine htake (i := 18) (v := (.bool true)) rfl (by kernel_rfl) (by kernel_rfl) (by kernel_rfl) (fun _ _ _ h => h) (Or.inl ⟨by rfl, by (intro w hSw; (try dsimp only at hSw); (try obtain ⟨_, _, _, _⟩ := hSw); go_simp; try with_reducible rfl)⟩) (by assumption) ?_; simp only [Act.put, List.setIfInBounds_toArray, List.set_cons_succ, List.set_cons_zero]
                                    refine htake (i := 19) (v := (.bool true)) rfl (by kernel_rfl) (by kernel_rfl) (by kernel_rfl) (fun _ _ _ h => h) (Or.inl ⟨by rfl, by (intro w hSw; (try dsimp only at hSw); (try obtain ⟨_, _, _, _⟩ := hSw); go_simp; try with_reducible rfl)⟩) (by assumption) ?_; simp only [Act.put, List.setIfInBounds_toArray, List.set_cons_succ, List.set_cons_zero]
                                    refine htake (i := 20) (v := (.agg o.cells.toArray)) rfl (by kernel_rfl) (by kernel_rfl) (by kernel_rfl) (fun _ _ _ h => h) (Or.inl ⟨by rfl, yl_loadR rfl rfl Hor.out (fun _ h => h.2.2.1)⟩) (by assumption) ?_; simp only [Act.put, List.setIfInBounds_toArray, List.set_cons_succ, List.set_cons_zero]
                                    refine htake (i := 21) (v := (.agg o.cells.toArray)) rfl (by kernel_rfl) (by kernel_rfl) (by kernel_rfl) (fun _ _ _ h => h) (Or.inl ⟨by rfl, yl_loadR rfl rfl Hor.out (fun _ h => h.2.2.2)⟩) (by assumption) ?_; simp only [Act.put, List.setIfInBounds_toArray, List.set_cons_succ, List.set_cons_zero]
                                    refine wpAnyH_ready (rs := [22]) (by kernel_rfl) (by simp) ?_
                                    refine hcons rfl rfl (fun K hK => ?_) ?_
                                    · clear hHeld
                                      refine owp_call rfl (by kernel_rfl) (args := #[.agg o.cells.toArray]) rfl (opTo_ok o Ho.out.cond.hash _) ?_
                                      rintro e w16 ⟨rfl, hc⟩
                                      replace hS := hS.call0 hc
                                      try simp only [List.cons_append, List.nil_append, List.append_nil, List.set_cons_zero, List.set_cons_succ] at hS
                                      clear hc
                                      refine ⟨_, rfl, ?_⟩
                                      refine hK.out _ _ ⟨(hS.get 7 rfl).range 0 2059 (by rw [List.drop_zero, List.take_of_length_le (Nat.le_of_eq (Hft.out.len _ _ _))]), (hS.get 2 rfl).range 0 2059 (by rw [List.drop_zero, List.take_of_length_le (Nat.le_of_eq (Hft.out.len _ _ _))]), (hS.get 8 rfl).range 0 39 (by rw [List.drop_zero, List.take_of_length_le (Nat.le_of_eq Hor.out)]), (hS.get 3 rfl).range 0 39 (by rw [List.drop_zero, List.take_of_length_le (Nat.le_of_eq Hor.out)])⟩ (fun hHeld => ?_)
                                      clear hK K
                                      simp only [Act.put, List.setIfInBounds_toArray, List.set_cons_succ, List.set_cons_zero]
                                      refine htake (i := 23) (v := (.bool true)) rfl (by kernel_rfl) (by kernel_rfl) (by kernel_rfl) (fun _ _ _ h => h) (Or.inl ⟨by rfl, (fun _ _ => run_eql_same rfl e_op (by decide) gd_op rfl rfl Hk.out)⟩) (by assumption) ?_; simp only [Act.put, List.setIfInBounds_toArray, List.set_cons_succ, List.set_cons_zero]
                                      refine htake (i := 24) (v := (.bool true)) rfl (by kernel_rfl) (by kernel_rfl) (by kernel_rfl) (fun _ _ _ h => h) (Or.inl ⟨by rfl, by (intro w hSw; (try dsimp only at hSw); (try obtain ⟨_, _, _, _⟩ := hSw); go_simp; try with_reducible rfl)⟩) (by assumption) ?_; simp only [Act.put, List.setIfInBounds_toArray, List.set_cons_succ, List.set_cons_zero]
                                      refine htake (i := 25) (v := (.bool true)) rfl (by kernel_rfl) (by kernel_rfl) (by kernel_rfl) (fun _ _ _ h => h) (Or.inl ⟨by rfl, by (intro w hSw; (try dsimp only at hSw); (try obtain ⟨_, _, _, _⟩ := hSw); go_simp; try with_reducible rfl)⟩) (by assumption) ?_; simp only [Act.put, List.setIfInBounds_toArray, List.set_cons_succ, List.set_cons_zero]
                                      refine htake (i := 26) (v := (.pointer (some ⟨b, 0, none⟩))) rfl (by kernel_rfl) (by kernel_rfl) (by kernel_rfl) (fun _ _ _ h => h) (Or.inl ⟨by rfl, by (intro w hSw; (try dsimp only at hSw); (try obtain ⟨_, _, _, _⟩ := hSw); go_simp; try with_reducible rfl)⟩) (by assumption) ?_; simp only [Act.put, List.setIfInBounds_toArray, List.set_cons_succ, List.set_cons_zero]
                                      refine wpAnyH_ready (rs := [27]) (by kernel_rfl) (by simp) ?_
                                      refine hcons rfl rfl (fun K hK => ?_) ?_
                                      · clear hHeld
                                        have hin := Hback.out _ _ _ _ _ (hS.pick [0, 1] rfl (by decide))
                                        refine owp_call rfl (by kernel_rfl) (args := #[.pointer (some ⟨b, 0, none⟩)]) rfl (end_ok b _ ⟨[], 0⟩ (Nat.zero_le _) _ (hS.get 0 rfl) hin) ?_
                                        clear hin
                                        rintro e w17 ⟨rfl, v17, hc, _⟩
                                        rw [show (PS.mk [] 0).fin.bad = 0 by simp [PS.fin]] at hc ⊢
                                        replace hS := hS.call1 0 rfl hc
                                        try simp only [List.cons_append, List.nil_append, List.append_nil, List.set_cons_zero, List.set_cons_succ] at hS
                                        clear hc
                                        refine ⟨_, rfl, ?_⟩
                                        refine hK.out _ _ ⟨(hS.get 7 rfl).range 0 2059 (by rw [List.drop_zero, List.take_of_length_le (Nat.le_of_eq (Hft.out.len _ _ _))]), (hS.get 2 rfl).range 0 2059 (by rw [List.drop_zero, List.take_of_length_le (Nat.le_of_eq (Hft.out.len _ _ _))]), (hS.get 8 rfl).range 0 39 (by rw [List.drop_zero, List.take_of_length_le (Nat.le_of_eq Hor.out)]), (hS.get 3 rfl).range 0 39 (by rw [List.drop_zero, List.take_of_length_le (Nat.le_of_eq Hor.out)])⟩ (fun hHeld => ?_)
                                        clear hK K
                                        simp only [Act.put, List.setIfInBounds_toArray, List.set_cons_succ, List.set_cons_zero]
                                        refine htake (i := 28) (v := (.bool true)) rfl (by kernel_rfl) (by kernel_rfl) (by kernel_rfl) (fun _ _ _ h => h) (Or.inl ⟨by rfl, by (intro w hSw; (try dsimp only at hSw); (try obtain ⟨_, _, _, _⟩ := hSw); go_simp; try with_reducible rfl)⟩) (by assumption) ?_; simp only [Act.put, List.setIfInBounds_toArray, List.set_cons_succ, List.set_cons_zero]
                                        refine htake (i := 29) (v := (.bool true)) rfl (by kernel_rfl) (by kernel_rfl) (by kernel_rfl) (fun _ _ _ h => h) (Or.inl ⟨by rfl, by (intro w hSw; (try dsimp only at hSw); (try obtain ⟨_, _, _, _⟩ := hSw); go_simp; try with_reducible rfl)⟩) (by assumption) ?_; simp only [Act.put, List.setIfInBounds_toArray, List.set_cons_succ, List.set_cons_zero]
                                        refine htake (i := 30) (v := (.bool true)) rfl (by kernel_rfl) (by kernel_rfl) (by kernel_rfl) (fun _ _ _ h => h) (Or.inl ⟨by rfl, by (intro w hSw; (try dsimp only at hSw); (try obtain ⟨_, _, _, _⟩ := hSw); go_simp; try with_reducible rfl)⟩) (by assumption) ?_; simp only [Act.put, List.setIfInBounds_toArray, List.set_cons_succ, List.set_cons_zero]
                                        refine wpAnyH_done (by kernel_rfl) ?_ _
                                        clear hHeld
                                        go_wp2_with fail
                                        go_ret
                                        exact ⟨rfl, hS.pick [] rfl (by decide)⟩
                                      exact AllReadyH.nil
                                    exact AllReadyH.nil
                                  exact AllReadyH.nil
                                exact AllReadyH.nil
                              exact AllReadyH.nil
                            exact AllReadyH.nil
                          exact AllReadyH.nil
                        exact AllReadyH.nil
                      exact AllReadyH.nil
                · have hb0 : (o.cond.side != 0) = true := by simp; omega
                  have hb1 : (o.cond.side != 1) = true := by simp; omega
                  clear hs0
                  go_wp2_with (first
                    | ((with_reducible show wpList _ _ _ (Oper.mk (some 63) (Op.load _ _) _ _ _ _ :: _) _ _); refine wpl rfl ?_; refine owp_load1 hS 1 rfl rfl rfl K3.out ?_)
                    | ((with_reducible show wpList _ _ _ (Oper.mk (some 68) (Op.load _ _) _ _ _ _ :: _) _ _); refine wpl rfl ?_; refine owp_load1 hS 1 rfl rfl rfl K3.out ?_))
                  refine (awakeD_ok _).mono ?_
                  rintro e w1 ⟨rfl, hc⟩
                  replace hS := hS.call0 hc
                  clear hc
                  go_wp2_with fail
                  go_ret
                  exact ⟨rfl, hS.pick [] rfl (by decide)⟩

end Go.Proofs.Ytldmkafobbemjaa
