/-
  A memo, as it is taken off bytes by the document.
-/
import Derived.Test.YtjgphbdffhmmgaaRef9
namespace Go.Proofs.Ytjgphbdffhmmgaa
set_option linter.unusedSimpArgs false
set_option linter.unusedVariables false
open Go Go.RowKit
set_option maxRecDepth 100000
set_option maxHeartbeats 2000000

theorem build_in (a : Option Addr) (n c : Nat) (w : World) : (Instr.build 67 #[(0, .slice a n c)]).run Try.prog w = .ok (.agg [Value.slice a n c, .int .i64 0, .int .i64 0].toArray) w := by kernel_rfl
theorem build_memoR0 (w : World) : (Instr.build 60 #[]).run Try.prog w = .ok (.agg (Memo.zero.cells (.slice none 0 0) (.slice none 0 0)).toArray) w := by kernel_rfl
theorem Memo.set_kind (k : Int) (c r : Nat) (o : Oop) (t : List Hop) (s : Sig) (tv wv : Value) (k' : Int) : (Memo.cells ⟨k, c, r, o, t, s⟩ tv wv).set 0 (.int .i64 k') = Memo.cells ⟨k', c, r, o, t, s⟩ tv wv := rfl
theorem Memo.set_channel (k : Int) (c r : Nat) (o : Oop) (t : List Hop) (s : Sig) (tv wv : Value) (c' : Nat) : (Memo.cells ⟨k, c, r, o, t, s⟩ tv wv).set 1 (.int .u32 c') = Memo.cells ⟨k, c', r, o, t, s⟩ tv wv := rfl

def RReadPost (l : List UInt8) (w : World) (e : Ending) (w' : World) : Prop :=
  ∃ tv wv x y, e = .returned (.tuple #[.agg ((readMemo l).1.cells tv wv).toArray, .int .i64 (readMemo l).2]) ∧ St w [] w' [x, y] ∧
    RowV 97 3 tv (readMemo l).1.trail.length (hopCells (readMemo l).1.trail) x ∧ RowV 27 32 wv (readMemo l).1.sig.way.length (wayCells (readMemo l).1.sig.way) y

def RMid (w : World) (b gr gm : Nat) (u : Value) (l : List UInt8) (ms : Memo × PS) (w' : World) : Prop :=
  ∃ tv wv x y at', St w [] w' [rfBlk b u at' ms.2.bad, some (gr, Memo.zero.cells (.slice none 0 0) (.slice none 0 0), 60), some (gm, ms.1.cells tv wv, 60), x, y] ∧
    RAt l at' ms.2 ∧ ms.1.Fit ∧ RowV 97 3 tv ms.1.trail.length (hopCells ms.1.trail) x ∧ RowV 27 32 wv ms.1.sig.way.length (wayCells ms.1.sig.way) y

theorem RMid.intro {w w' : World} {b gr gm : Nat} {u : Value} {l : List UInt8} {M : Memo} {S : PS} {tv wv : Value} {x y : Ent} {at' : Nat}
    (hS : St w [] w' [rfBlk b u at' S.bad, some (gr, Memo.zero.cells (.slice none 0 0) (.slice none 0 0), 60), some (gm, M.cells tv wv, 60), x, y])
    (hat : RAt l at' S) (hf : M.Fit) (hx : RowV 97 3 tv M.trail.length (hopCells M.trail) x) (hy : RowV 27 32 wv M.sig.way.length (wayCells M.sig.way) y) {ms : Memo × PS} (e : ms = (M, S)) :
    RMid w b gr gm u l ms w' := by subst e; exact ⟨_, _, x, y, _, hS, hat, hf, hx, hy⟩

theorem rreadMemo_ok (u : Value) (l : List UInt8) (w : World) (hr : RowR w 1 u l.length (bs l)) (hl : l.length ≤ 1000000) :
    Calls Try.prog 7 #[u] w (RReadPost l w) := by
  have hS := St.nil w
  obtain ⟨s0, hs0⟩ : ∃ s0, s0 = PS.mk l 0 := ⟨_, rfl⟩
  have h00 : s0.bad = 0 := by rw [hs0]
  have h01 : s0.rest = l := by rw [hs0]
  have H0 := Lib.hid (And.intro hs0 (And.intro h00 h01))
  clear hs0 h00 h01
  obtain ⟨a0, c0, rfl⟩ := hr.isSl
  go_enter Try.func7, Try.ntmps7
  go_wp2_with (first
    | ((with_reducible show wpList _ _ _ (Oper.mk (some 2) (Op.alloc _) _ _ _ _ :: _) _ _); refine wpl rfl ?_; refine (owp_allocAt hS 2 rfl rfl ?_); clear hS; intro gr _ hS; simp only [List.cons_append, List.nil_append] at hS)
    | ((with_reducible show wpList _ _ _ (Oper.mk _ (Op.build _ _) _ _ _ _ :: _) _ _); refine wpl rfl ?_; refine owp_build rfl [(0, .slice _ _ _)] rfl (build_in _ _ _ _) ?_)
    | ((with_reducible show wpList _ _ _ (Oper.mk _ (Op.box _ _) _ _ _ _ :: _) _ _); refine wpl rfl ?_; refine owp_box hS rfl (vs := [_, _, _]) rfl ?_; clear hS; intro b w2 hS; try simp only [List.cons_append, List.nil_append, List.append_nil, List.set_cons_zero, List.set_cons_succ] at hS)
    | ((with_reducible show wpList _ _ _ (Oper.mk (some 5) (Op.alloc _) _ _ _ _ :: _) _ _); refine wpl rfl ?_; refine (owp_allocAt hS 5 rfl rfl ?_); clear hS; intro gm _ hS; simp only [List.cons_append, List.nil_append] at hS))
  replace hS := hS.pick (L' := [rfBlk b (.slice a0 l.length c0) 0 0, some (gr, Memo.zero.cells (.slice none 0 0) (.slice none 0 0), 60), some (gm, Memo.zero.cells (.slice none 0 0) (.slice none 0 0), 60)]) [1, 0, 2] rfl (by decide)
  rw [← H0.out.2.1] at hS
  have hat : RAt l 0 s0 := ⟨Nat.zero_le _, fun _ => by rw [H0.out.2.2]; rfl⟩
  refine (rnum_ok 1 (by omega) (by omega) b _ l _ _ _ (hS.get 0 rfl) (URd.own hr hl hS) hat).mono ?_; rintro e w1 ⟨rfl, at2, hc, hat2⟩; replace hS := hS.call1 0 rfl hc; try simp only [List.cons_append, List.nil_append, List.append_nil, List.set_cons_zero, List.set_cons_succ] at hS; clear hc hat; have hat := hat2; clear hat2
  have h1 := num1_lt s0
  go_wp2_with (first | ((with_reducible show wpList _ _ _ (Oper.mk _ (Op.store _ _ _) _ _ _ _ :: _) _ _); refine wpl rfl ?_; refine owp_store1 hS 2 rfl rfl rfl rfl rfl (Memo.lt _ _ _ _ _ _ _ _ ozero_len lzero_len (by omega)) (Memo.set_kind _ _ _ _ _ _ _ _ _) ?_; clear hS; intro _ hS; try simp only [List.cons_append, List.nil_append, List.append_nil, List.set_cons_zero, List.set_cons_succ] at hS))
  refine (rnum_ok 4 (by omega) (by omega) b _ l _ _ _ (hS.get 0 rfl) (URd.own hr hl hS) hat).mono ?_; rintro e w1 ⟨rfl, at2, hc, hat2⟩; replace hS := hS.call1 0 rfl hc; try simp only [List.cons_append, List.nil_append, List.append_nil, List.set_cons_zero, List.set_cons_succ] at hS; clear hc hat; have hat := hat2; clear hat2
  have h4 := num4_lt (s0.num 1).2
  have Hread := Lib.hid (show readMemo l = (let m := readBody (s0.num 1).1 ((s0.num 1).2.num 4).1 ((s0.num 1).2.num 4).2; let s := if m.2.bad = 0 ∧ m.1.right = false then m.2.fail 10 else m.2; if s.fin.bad ≠ 0 then (Memo.zero, s.fin.bad) else (m.1, 0)) by rw [H0.out.1]; rfl)
  generalize (s0.num 1).1 = k at *
  generalize ((s0.num 1).2.num 4).1 = ch at *
  generalize ((s0.num 1).2.num 4).2 = s1 at *
  by_cases hk0 : k = 0
  · subst hk0
    go_upto_region 15 with (first
      | ((with_reducible show wpList _ _ _ (Oper.mk _ (Op.store _ _ _) _ _ _ _ :: _) _ _); refine wpl rfl ?_; refine owp_store1 hS 2 rfl rfl rfl rfl rfl (Memo.lt _ _ _ _ _ _ _ _ ozero_len lzero_len (by omega)) (Memo.set_channel _ _ _ _ _ _ _ _ _) ?_; clear hS; intro _ hS; try simp only [List.cons_append, List.nil_append, List.append_nil, List.set_cons_zero, List.set_cons_succ] at hS)
      | ((with_reducible show wpList _ _ _ (Oper.mk _ (Op.load _ _) _ _ _ _ :: _) _ _); refine wpl rfl ?_; first | refine owp_load1 hS 2 rfl rfl rfl (Memo.g0 _ _ _) ?_ | refine owp_load1 hS 0 rfl rfl rfl rfl ?_)
      | fail)
    replace hS := hS.addNone.addNone
    try simp only [List.cons_append, List.nil_append, List.append_nil, List.set_cons_zero, List.set_cons_succ] at hS
    have hmid := RMid.intro hS hat Memo.Fit.zero' (RowV.nil _ _) (RowV.nil _ _) (readBody0 ch s1)
    -- here: hmid : RMid w b gr gm _ l (readBody k ch s1) _
    clear hS hat
    obtain ⟨tv, wv, x, y, at5, hS, hat, hfit, hrx, hry⟩ := hmid
    generalize hms : readBody _ ch s1 = ms at *
    obtain ⟨m, s2⟩ := ms
    have HB := Lib.hid hms
    clear hms
    obtain ⟨a1, c1, rfl⟩ := hrx.isSl
    obtain ⟨a2, c2, rfl⟩ := hry.isSl
    have Hrx := Lib.hid hrx
    have Hry := Lib.hid hry
    have Hfit2 := Lib.hid hfit
    have Hone := Lib.hid (Memo.one m (.slice a1 m.trail.length c1) (.slice a2 m.sig.way.length c2) rfl rfl)
    clear hrx hry hfit
    simp only [] at hS hat
    -- here: hS at [rf s2.bad, gr, gm (m.cells ..), x, y], HB : readBody k ch s1 = (m, s2)
    by_cases hb0 : s2.bad = 0
    · have hb1 : (s2.bad == 0) = true := by simpa using hb0
      have Hb0 := Lib.hid hb0
      clear hb0
      cases hr2 : m.right with
      | true =>
        have Hr := Lib.hid hr2
        have Hread2 := Lib.hid (show readMemo l = (if s2.fin.bad ≠ 0 then (Memo.zero, s2.fin.bad) else (m, 0)) by rw [Hread.out]; simp [Hr.out])
        clear hr2
        go_wp2_with (first | ((with_reducible show wpList _ _ _ (Oper.mk _ (Op.load _ _) _ _ _ _ :: _) _ _); refine wpl rfl ?_; refine (owp_load1 hS 0 rfl rfl rfl rfl ?_)) | ((with_reducible show wpList _ _ _ (Oper.mk _ (Op.load _ _) _ _ _ _ :: _) _ _); refine wpl rfl ?_; refine (owp_loadW hS 2 rfl rfl rfl (Hfit2.out.len _ _) ?_)))
        refine (rright_ok m _ a1 c1 a2 c2 ⟨rfl, Hfit2.out⟩ _).mono ?_
        rintro e w2 ⟨rfl, hc⟩
        rw [Hr.out]
        replace hS := hS.call0 hc
        try simp only [List.cons_append, List.nil_append, List.append_nil, List.set_cons_zero, List.set_cons_succ] at hS
        clear hc
        go_wp2_with (first | ((with_reducible show wpList _ _ _ (Oper.mk _ (Op.store _ _ _) _ _ _ _ :: _) _ _); refine wpl rfl ?_; refine (owp_store1 hS 0 rfl rfl rfl rfl rfl (by simp) rfl ?_); clear hS; intro _ hS; try simp [Act.eval] at hS))
        generalize s2 = s3 at *
        -- here: hS at [rf s3.bad, gr, gm m, x, y], hat for s3, Hread2 : readMemo l = (if s3.fin.bad ≠ 0 ..)
        go_wp2_with fail
        refine (rend_ok b _ l _ s3 _ (hS.get 0 rfl) (URd.own hr hl hS) hat).mono ?_
        rintro e w3 ⟨rfl, at5, hc, hat5⟩
        replace hS := hS.call1 0 rfl hc
        try simp only [List.cons_append, List.nil_append, List.append_nil, List.set_cons_zero, List.set_cons_succ] at hS
        clear hc hat5
        generalize s3.fin.bad = eb at *
        by_cases he : eb = 0
        · subst he
          have Hread3 := Lib.hid (show readMemo l = (m, 0) by rw [Hread2.out]; simp)
          clear Hread2 Hread
          go_wp2_with (first | ((with_reducible show wpList _ _ _ (Oper.mk _ (Op.load _ _) _ _ _ _ :: _) _ _); refine wpl rfl ?_; refine (owp_loadW hS 2 rfl rfl rfl (Hfit2.out.len _ _) ?_)) | ((with_reducible show wpList _ _ _ (Oper.mk _ (Op.store _ _ _) _ _ _ _ :: _) _ _); refine wpl rfl ?_; refine (owp_storeW hS 1 rfl rfl rfl rfl (Hfit2.out.len _ _) (Memo.Fit.zero.len _ _) (Hone.out) ?_); clear hS; intro _ hS; try simp only [List.cons_append, List.nil_append, List.append_nil, List.set_cons_zero, List.set_cons_succ] at hS))
          (try simp only [Exit.inBlock, Exit.then]); refine bodyPost_ret (res_cell2 rfl rfl hS 1 rfl (Hfit2.out.len _ _)) rfl ?_
          refine ⟨.slice a1 m.trail.length c1, .slice a2 m.sig.way.length c2, x, y, ?_, hS.pick [3, 4] rfl (by decide), ?_, ?_⟩
          · rw [Hread3.out]; rfl
          · rw [Hread3.out]; exact Hrx.out
          · rw [Hread3.out]; exact Hry.out
        · have Hread3 := Lib.hid (show readMemo l = (Memo.zero, eb) by rw [Hread2.out, if_pos he])
          have he1 : (eb != 0) = true := by simpa using he
          clear Hread2 Hread he
          go_wp2_with (first | ((with_reducible show wpList _ _ _ (Oper.mk _ (Op.build _ _) _ _ _ _ :: _) _ _); refine wpl rfl ?_; refine owp_build rfl [] rfl (build_memoR0 _) ?_) | ((with_reducible show wpList _ _ _ (Oper.mk _ (Op.store _ _ _) _ _ _ _ :: _) _ _); refine wpl rfl ?_; refine (owp_storeW hS 1 rfl rfl rfl rfl (Memo.Fit.zero.len _ _) (Memo.Fit.zero.len _ _) (Memo.one _ _ _ rfl rfl) ?_); clear hS; intro _ hS; try simp only [List.cons_append, List.nil_append, List.append_nil, List.set_cons_zero, List.set_cons_succ] at hS))
          (try simp only [Exit.inBlock, Exit.then]); refine bodyPost_ret (res_cell2 rfl rfl hS 1 rfl (Memo.Fit.zero.len _ _)) rfl ?_
          refine ⟨.slice none 0 0, .slice none 0 0, none, none, ?_, (hS.pick [] rfl (by decide)).addNone.addNone, ?_, ?_⟩
          · rw [Hread3.out]; rfl
          · rw [Hread3.out]; exact RowV.nil _ _
          · rw [Hread3.out]; exact RowV.nil _ _
      | false =>
        have Hr := Lib.hid hr2
        have h3 : s2.fail 10 = ⟨[], 10⟩ := by simp [PS.fail, Hb0.out]
        have Hread2 := Lib.hid (show readMemo l = (if (PS.mk [] 10).fin.bad ≠ 0 then (Memo.zero, (PS.mk [] 10).fin.bad) else (m, 0)) by rw [Hread.out]; simp [Hr.out, Hb0.out, h3])
        clear hr2 h3
        go_wp2_with (first | ((with_reducible show wpList _ _ _ (Oper.mk _ (Op.load _ _) _ _ _ _ :: _) _ _); refine wpl rfl ?_; refine (owp_load1 hS 0 rfl rfl rfl rfl ?_)) | ((with_reducible show wpList _ _ _ (Oper.mk _ (Op.load _ _) _ _ _ _ :: _) _ _); refine wpl rfl ?_; refine (owp_loadW hS 2 rfl rfl rfl (Hfit2.out.len _ _) ?_)))
        refine (rright_ok m _ a1 c1 a2 c2 ⟨rfl, Hfit2.out⟩ _).mono ?_
        rintro e w2 ⟨rfl, hc⟩
        rw [Hr.out]
        replace hS := hS.call0 hc
        try simp only [List.cons_append, List.nil_append, List.append_nil, List.set_cons_zero, List.set_cons_succ] at hS
        clear hc
        go_wp2_with (first | ((with_reducible show wpList _ _ _ (Oper.mk _ (Op.store _ _ _) _ _ _ _ :: _) _ _); refine wpl rfl ?_; refine (owp_store1 hS 0 rfl rfl rfl rfl rfl (by simp) rfl ?_); clear hS; intro _ hS; try simp [Act.eval] at hS))
        have hat3 : RAt l at5 (PS.mk [] 10) := ⟨hat.1, fun h => absurd h (by decide)⟩
        clear hat
        have hat := hat3
        clear hat3
        obtain ⟨s3, hs3⟩ : ∃ s3, s3 = PS.mk [] 10 := ⟨_, rfl⟩
        rw [← hs3] at Hread2 hat
        have hb3 : (10 : Int) = s3.bad := by rw [hs3]
        rw [hb3] at hS
        clear hs3 hb3
        -- here: hS at [rf s3.bad, gr, gm m, x, y], hat for s3, Hread2 : readMemo l = (if s3.fin.bad ≠ 0 ..)
        go_wp2_with fail
        refine (rend_ok b _ l _ s3 _ (hS.get 0 rfl) (URd.own hr hl hS) hat).mono ?_
        rintro e w3 ⟨rfl, at5, hc, hat5⟩
        replace hS := hS.call1 0 rfl hc
        try simp only [List.cons_append, List.nil_append, List.append_nil, List.set_cons_zero, List.set_cons_succ] at hS
        clear hc hat5
        generalize s3.fin.bad = eb at *
        by_cases he : eb = 0
        · subst he
          have Hread3 := Lib.hid (show readMemo l = (m, 0) by rw [Hread2.out]; simp)
          clear Hread2 Hread
          go_wp2_with (first | ((with_reducible show wpList _ _ _ (Oper.mk _ (Op.load _ _) _ _ _ _ :: _) _ _); refine wpl rfl ?_; refine (owp_loadW hS 2 rfl rfl rfl (Hfit2.out.len _ _) ?_)) | ((with_reducible show wpList _ _ _ (Oper.mk _ (Op.store _ _ _) _ _ _ _ :: _) _ _); refine wpl rfl ?_; refine (owp_storeW hS 1 rfl rfl rfl rfl (Hfit2.out.len _ _) (Memo.Fit.zero.len _ _) (Hone.out) ?_); clear hS; intro _ hS; try simp only [List.cons_append, List.nil_append, List.append_nil, List.set_cons_zero, List.set_cons_succ] at hS))
          (try simp only [Exit.inBlock, Exit.then]); refine bodyPost_ret (res_cell2 rfl rfl hS 1 rfl (Hfit2.out.len _ _)) rfl ?_
          refine ⟨.slice a1 m.trail.length c1, .slice a2 m.sig.way.length c2, x, y, ?_, hS.pick [3, 4] rfl (by decide), ?_, ?_⟩
          · rw [Hread3.out]; rfl
          · rw [Hread3.out]; exact Hrx.out
          · rw [Hread3.out]; exact Hry.out
        · have Hread3 := Lib.hid (show readMemo l = (Memo.zero, eb) by rw [Hread2.out, if_pos he])
          have he1 : (eb != 0) = true := by simpa using he
          clear Hread2 Hread he
          go_wp2_with (first | ((with_reducible show wpList _ _ _ (Oper.mk _ (Op.build _ _) _ _ _ _ :: _) _ _); refine wpl rfl ?_; refine owp_build rfl [] rfl (build_memoR0 _) ?_) | ((with_reducible show wpList _ _ _ (Oper.mk _ (Op.store _ _ _) _ _ _ _ :: _) _ _); refine wpl rfl ?_; refine (owp_storeW hS 1 rfl rfl rfl rfl (Memo.Fit.zero.len _ _) (Memo.Fit.zero.len _ _) (Memo.one _ _ _ rfl rfl) ?_); clear hS; intro _ hS; try simp only [List.cons_append, List.nil_append, List.append_nil, List.set_cons_zero, List.set_cons_succ] at hS))
          (try simp only [Exit.inBlock, Exit.then]); refine bodyPost_ret (res_cell2 rfl rfl hS 1 rfl (Memo.Fit.zero.len _ _)) rfl ?_
          refine ⟨.slice none 0 0, .slice none 0 0, none, none, ?_, (hS.pick [] rfl (by decide)).addNone.addNone, ?_, ?_⟩
          · rw [Hread3.out]; rfl
          · rw [Hread3.out]; exact RowV.nil _ _
          · rw [Hread3.out]; exact RowV.nil _ _
    · have hb1 : (s2.bad == 0) = false := by simpa using hb0
      have Hread2 := Lib.hid (show readMemo l = (if s2.fin.bad ≠ 0 then (Memo.zero, s2.fin.bad) else (m, 0)) by rw [Hread.out]; simp [hb0])
      clear hb0
      go_wp2_with (first | ((with_reducible show wpList _ _ _ (Oper.mk _ (Op.load _ _) _ _ _ _ :: _) _ _); refine wpl rfl ?_; refine (owp_load1 hS 0 rfl rfl rfl rfl ?_)))
      generalize s2 = s3 at *
      -- here: hS at [rf s3.bad, gr, gm m, x, y], hat for s3, Hread2 : readMemo l = (if s3.fin.bad ≠ 0 ..)
      go_wp2_with fail
      refine (rend_ok b _ l _ s3 _ (hS.get 0 rfl) (URd.own hr hl hS) hat).mono ?_
      rintro e w3 ⟨rfl, at5, hc, hat5⟩
      replace hS := hS.call1 0 rfl hc
      try simp only [List.cons_append, List.nil_append, List.append_nil, List.set_cons_zero, List.set_cons_succ] at hS
      clear hc hat5
      generalize s3.fin.bad = eb at *
      by_cases he : eb = 0
      · subst he
        have Hread3 := Lib.hid (show readMemo l = (m, 0) by rw [Hread2.out]; simp)
        clear Hread2 Hread
        go_wp2_with (first | ((with_reducible show wpList _ _ _ (Oper.mk _ (Op.load _ _) _ _ _ _ :: _) _ _); refine wpl rfl ?_; refine (owp_loadW hS 2 rfl rfl rfl (Hfit2.out.len _ _) ?_)) | ((with_reducible show wpList _ _ _ (Oper.mk _ (Op.store _ _ _) _ _ _ _ :: _) _ _); refine wpl rfl ?_; refine (owp_storeW hS 1 rfl rfl rfl rfl (Hfit2.out.len _ _) (Memo.Fit.zero.len _ _) (Hone.out) ?_); clear hS; intro _ hS; try simp only [List.cons_append, List.nil_append, List.append_nil, List.set_cons_zero, List.set_cons_succ] at hS))
        (try simp only [Exit.inBlock, Exit.then]); refine bodyPost_ret (res_cell2 rfl rfl hS 1 rfl (Hfit2.out.len _ _)) rfl ?_
        refine ⟨.slice a1 m.trail.length c1, .slice a2 m.sig.way.length c2, x, y, ?_, hS.pick [3, 4] rfl (by decide), ?_, ?_⟩
        · rw [Hread3.out]; rfl
        · rw [Hread3.out]; exact Hrx.out
        · rw [Hread3.out]; exact Hry.out
      · have Hread3 := Lib.hid (show readMemo l = (Memo.zero, eb) by rw [Hread2.out, if_pos he])
        have he1 : (eb != 0) = true := by simpa using he
        clear Hread2 Hread he
        go_wp2_with (first | ((with_reducible show wpList _ _ _ (Oper.mk _ (Op.build _ _) _ _ _ _ :: _) _ _); refine wpl rfl ?_; refine owp_build rfl [] rfl (build_memoR0 _) ?_) | ((with_reducible show wpList _ _ _ (Oper.mk _ (Op.store _ _ _) _ _ _ _ :: _) _ _); refine wpl rfl ?_; refine (owp_storeW hS 1 rfl rfl rfl rfl (Memo.Fit.zero.len _ _) (Memo.Fit.zero.len _ _) (Memo.one _ _ _ rfl rfl) ?_); clear hS; intro _ hS; try simp only [List.cons_append, List.nil_append, List.append_nil, List.set_cons_zero, List.set_cons_succ] at hS))
        (try simp only [Exit.inBlock, Exit.then]); refine bodyPost_ret (res_cell2 rfl rfl hS 1 rfl (Memo.Fit.zero.len _ _)) rfl ?_
        refine ⟨.slice none 0 0, .slice none 0 0, none, none, ?_, (hS.pick [] rfl (by decide)).addNone.addNone, ?_, ?_⟩
        · rw [Hread3.out]; rfl
        · rw [Hread3.out]; exact RowV.nil _ _
        · rw [Hread3.out]; exact RowV.nil _ _
  · by_cases hk1 : k = 1
    · subst hk1
      go_upto_region 8 with (first
        | ((with_reducible show wpList _ _ _ (Oper.mk _ (Op.store _ _ _) _ _ _ _ :: _) _ _); refine wpl rfl ?_; refine owp_store1 hS 2 rfl rfl rfl rfl rfl (Memo.lt _ _ _ _ _ _ _ _ ozero_len lzero_len (by omega)) (Memo.set_channel _ _ _ _ _ _ _ _ _) ?_; clear hS; intro _ hS; try simp only [List.cons_append, List.nil_append, List.append_nil, List.set_cons_zero, List.set_cons_succ] at hS)
        | ((with_reducible show wpList _ _ _ (Oper.mk _ (Op.load _ _) _ _ _ _ :: _) _ _); refine wpl rfl ?_; first | refine owp_load1 hS 2 rfl rfl rfl (Memo.g0 _ _ _) ?_ | refine owp_load1 hS 0 rfl rfl rfl rfl ?_)
        | fail)
      go_wp2_with fail
      refine (rnum_ok 8 (by omega) (by omega) b _ l _ _ _ (hS.get 0 rfl) (URd.own hr hl hS) hat).mono ?_; rintro e w1 ⟨rfl, at2, hc, hat2⟩; replace hS := hS.call1 0 rfl hc; try simp only [List.cons_append, List.nil_append, List.append_nil, List.set_cons_zero, List.set_cons_succ] at hS; clear hc hat; have hat := hat2; clear hat2
      go_wp2_with (first
        | ((with_reducible show wpList _ _ _ (Oper.mk _ (Op.store _ _ _) _ _ _ _ :: _) _ _); refine wpl rfl ?_; refine owp_store1 hS 2 rfl rfl rfl rfl rfl (Memo.lt _ _ _ _ _ _ _ _ ozero_len lzero_len (by omega)) (Memo.set_round _ _ _ _ _ _ _ _ _) ?_; clear hS; intro _ hS; try simp only [List.cons_append, List.nil_append, List.append_nil, List.set_cons_zero, List.set_cons_succ] at hS)
        | fail)
      refine (rtakeOp_ok b _ l _ _ _ (hS.get 0 rfl) (URd.own hr hl hS) hat).mono ?_; rintro e w1 ⟨rfl, at2, hc, hat2⟩; replace hS := hS.call1 0 rfl hc; try simp only [List.cons_append, List.nil_append, List.append_nil, List.set_cons_zero, List.set_cons_succ] at hS; clear hc hat; have hat := hat2; clear hat2
      have Hh := Lib.hid (takeOp_hash (s1.num 8).2)
      go_wp2_with (first | ((with_reducible show wpList _ _ _ (Oper.mk _ (Op.store _ _ _) _ _ _ _ :: _) _ _); refine wpl rfl ?_; refine owp_store hS 2 rfl rfl rfl rfl (Oop.len _ Hh.out) (Memo.le _ _ _ _ _ _ _ _ ozero_len lzero_len (by omega)) (Oop.one _) (Memo.set_op _ _ _ _ _ _ _ _ ozero_len _) ?_; clear hS; intro _ hS; try simp only [List.cons_append, List.nil_append, List.append_nil, List.set_cons_zero, List.set_cons_succ] at hS))
      refine (rtakeTrail_ok b _ l _ _ _ (hS.get 0 rfl) (URd.own hr hl hS) hat).mono ?_
      rintro e w2 ⟨r, at3, x, rfl, hc, hat2, hrow⟩
      replace hS := hS.call1 0 rfl hc
      try simp only [List.cons_append, List.nil_append, List.append_nil, List.set_cons_zero, List.set_cons_succ] at hS
      clear hc hat
      have hat := hat2
      clear hat2
      obtain ⟨a1, c1, rfl⟩ := hrow.isSl
      have Hrow := Lib.hid hrow
      clear hrow
      go_wp2_with (first | ((with_reducible show wpList _ _ _ (Oper.mk _ (Op.store _ _ _) _ _ _ _ :: _) _ _); refine wpl rfl ?_; refine owp_store1 hS 2 rfl rfl rfl rfl rfl (Memo.lt _ _ _ _ _ _ _ _ (Oop.len _ Hh.out) lzero_len (by omega)) (Memo.set_trail _ _ _ _ _ _ _ _ (Oop.len _ Hh.out) _ (takeTrail (takeOp (s1.num 8).2).2).1) ?_; clear hS; intro _ hS; try simp only [List.cons_append, List.nil_append, List.append_nil, List.set_cons_zero, List.set_cons_succ] at hS))
      refine (rtakeSig_ok b _ l _ _ _ (hS.get 0 rfl) (URd.own hr hl hS) hat).mono ?_
      rintro e w3 ⟨wv, at4, y, rfl, hc, hat2, hrow⟩
      replace hS := hS.call1 0 rfl hc
      try simp only [List.cons_append, List.nil_append, List.append_nil, List.set_cons_zero, List.set_cons_succ] at hS
      clear hc hat
      have hat := hat2
      clear hat2
      obtain ⟨a2, c2, rfl⟩ := hrow.isSl
      have Hrow2 := Lib.hid hrow
      clear hrow
      have Hl := Lib.hid (takeSig_lens (takeTrail (takeOp (s1.num 8).2).2).2)
      go_upto_region 15 with (first
        | ((with_reducible show wpList _ _ _ (Oper.mk _ (Op.store _ _ _) _ _ _ _ :: _) _ _); refine wpl rfl ?_; refine owp_store hS 2 rfl rfl rfl rfl (Sig.len _ _ (LSig.len _ Hl.out.1 Hl.out.2)) (Memo.le _ _ _ _ _ _ _ _ (Oop.len _ Hh.out) lzero_len (by omega)) (Sig.one _ _ rfl) (Memo.set_sig _ _ _ _ _ _ _ _ (Oop.len _ Hh.out) lzero_len _ _) ?_; clear hS; intro _ hS; try simp only [List.cons_append, List.nil_append, List.append_nil, List.set_cons_zero, List.set_cons_succ] at hS)
        | ((with_reducible show wpList _ _ _ (Oper.mk _ (Op.load _ _) _ _ _ _ :: _) _ _); refine wpl rfl ?_; first | refine owp_load1 hS 2 rfl rfl rfl (Memo.g0 _ _ _) ?_ | refine owp_load1 hS 0 rfl rfl rfl rfl ?_)
        | fail)
      have hmid := RMid.intro hS hat ⟨Hh.out, Hl.out.1, Hl.out.2⟩ Hrow.out Hrow2.out (readBody1 ch s1)
      -- here: hmid : RMid w b gr gm _ l (readBody k ch s1) _
      clear hS hat
      obtain ⟨tv, wv, x, y, at5, hS, hat, hfit, hrx, hry⟩ := hmid
      generalize hms : readBody _ ch s1 = ms at *
      obtain ⟨m, s2⟩ := ms
      have HB := Lib.hid hms
      clear hms
      obtain ⟨a1, c1, rfl⟩ := hrx.isSl
      obtain ⟨a2, c2, rfl⟩ := hry.isSl
      have Hrx := Lib.hid hrx
      have Hry := Lib.hid hry
      have Hfit2 := Lib.hid hfit
      have Hone := Lib.hid (Memo.one m (.slice a1 m.trail.length c1) (.slice a2 m.sig.way.length c2) rfl rfl)
      clear hrx hry hfit
      simp only [] at hS hat
      -- here: hS at [rf s2.bad, gr, gm (m.cells ..), x, y], HB : readBody k ch s1 = (m, s2)
      by_cases hb0 : s2.bad = 0
      · have hb1 : (s2.bad == 0) = true := by simpa using hb0
        have Hb0 := Lib.hid hb0
        clear hb0
        cases hr2 : m.right with
        | true =>
          have Hr := Lib.hid hr2
          have Hread2 := Lib.hid (show readMemo l = (if s2.fin.bad ≠ 0 then (Memo.zero, s2.fin.bad) else (m, 0)) by rw [Hread.out]; simp [Hr.out])
          clear hr2
          go_wp2_with (first | ((with_reducible show wpList _ _ _ (Oper.mk _ (Op.load _ _) _ _ _ _ :: _) _ _); refine wpl rfl ?_; refine (owp_load1 hS 0 rfl rfl rfl rfl ?_)) | ((with_reducible show wpList _ _ _ (Oper.mk _ (Op.load _ _) _ _ _ _ :: _) _ _); refine wpl rfl ?_; refine (owp_loadW hS 2 rfl rfl rfl (Hfit2.out.len _ _) ?_)))
          refine (rright_ok m _ a1 c1 a2 c2 ⟨rfl, Hfit2.out⟩ _).mono ?_
          rintro e w2 ⟨rfl, hc⟩
          rw [Hr.out]
          replace hS := hS.call0 hc
          try simp only [List.cons_append, List.nil_append, List.append_nil, List.set_cons_zero, List.set_cons_succ] at hS
          clear hc
          go_wp2_with (first | ((with_reducible show wpList _ _ _ (Oper.mk _ (Op.store _ _ _) _ _ _ _ :: _) _ _); refine wpl rfl ?_; refine (owp_store1 hS 0 rfl rfl rfl rfl rfl (by simp) rfl ?_); clear hS; intro _ hS; try simp [Act.eval] at hS))
          generalize s2 = s3 at *
          -- here: hS at [rf s3.bad, gr, gm m, x, y], hat for s3, Hread2 : readMemo l = (if s3.fin.bad ≠ 0 ..)
          go_wp2_with fail
          refine (rend_ok b _ l _ s3 _ (hS.get 0 rfl) (URd.own hr hl hS) hat).mono ?_
          rintro e w3 ⟨rfl, at5, hc, hat5⟩
          replace hS := hS.call1 0 rfl hc
          try simp only [List.cons_append, List.nil_append, List.append_nil, List.set_cons_zero, List.set_cons_succ] at hS
          clear hc hat5
          generalize s3.fin.bad = eb at *
          by_cases he : eb = 0
          · subst he
            have Hread3 := Lib.hid (show readMemo l = (m, 0) by rw [Hread2.out]; simp)
            clear Hread2 Hread
            go_wp2_with (first | ((with_reducible show wpList _ _ _ (Oper.mk _ (Op.load _ _) _ _ _ _ :: _) _ _); refine wpl rfl ?_; refine (owp_loadW hS 2 rfl rfl rfl (Hfit2.out.len _ _) ?_)) | ((with_reducible show wpList _ _ _ (Oper.mk _ (Op.store _ _ _) _ _ _ _ :: _) _ _); refine wpl rfl ?_; refine (owp_storeW hS 1 rfl rfl rfl rfl (Hfit2.out.len _ _) (Memo.Fit.zero.len _ _) (Hone.out) ?_); clear hS; intro _ hS; try simp only [List.cons_append, List.nil_append, List.append_nil, List.set_cons_zero, List.set_cons_succ] at hS))
            (try simp only [Exit.inBlock, Exit.then]); refine bodyPost_ret (res_cell2 rfl rfl hS 1 rfl (Hfit2.out.len _ _)) rfl ?_
            refine ⟨.slice a1 m.trail.length c1, .slice a2 m.sig.way.length c2, x, y, ?_, hS.pick [3, 4] rfl (by decide), ?_, ?_⟩
            · rw [Hread3.out]; rfl
            · rw [Hread3.out]; exact Hrx.out
            · rw [Hread3.out]; exact Hry.out
          · have Hread3 := Lib.hid (show readMemo l = (Memo.zero, eb) by rw [Hread2.out, if_pos he])
            have he1 : (eb != 0) = true := by simpa using he
            clear Hread2 Hread he
            go_wp2_with (first | ((with_reducible show wpList _ _ _ (Oper.mk _ (Op.build _ _) _ _ _ _ :: _) _ _); refine wpl rfl ?_; refine owp_build rfl [] rfl (build_memoR0 _) ?_) | ((with_reducible show wpList _ _ _ (Oper.mk _ (Op.store _ _ _) _ _ _ _ :: _) _ _); refine wpl rfl ?_; refine (owp_storeW hS 1 rfl rfl rfl rfl (Memo.Fit.zero.len _ _) (Memo.Fit.zero.len _ _) (Memo.one _ _ _ rfl rfl) ?_); clear hS; intro _ hS; try simp only [List.cons_append, List.nil_append, List.append_nil, List.set_cons_zero, List.set_cons_succ] at hS))
            (try simp only [Exit.inBlock, Exit.then]); refine bodyPost_ret (res_cell2 rfl rfl hS 1 rfl (Memo.Fit.zero.len _ _)) rfl ?_
            refine ⟨.slice none 0 0, .slice none 0 0, none, none, ?_, (hS.pick [] rfl (by decide)).addNone.addNone, ?_, ?_⟩
            · rw [Hread3.out]; rfl
            · rw [Hread3.out]; exact RowV.nil _ _
            · rw [Hread3.out]; exact RowV.nil _ _
        | false =>
          have Hr := Lib.hid hr2
          have h3 : s2.fail 10 = ⟨[], 10⟩ := by simp [PS.fail, Hb0.out]
          have Hread2 := Lib.hid (show readMemo l = (if (PS.mk [] 10).fin.bad ≠ 0 then (Memo.zero, (PS.mk [] 10).fin.bad) else (m, 0)) by rw [Hread.out]; simp [Hr.out, Hb0.out, h3])
          clear hr2 h3
          go_wp2_with (first | ((with_reducible show wpList _ _ _ (Oper.mk _ (Op.load _ _) _ _ _ _ :: _) _ _); refine wpl rfl ?_; refine (owp_load1 hS 0 rfl rfl rfl rfl ?_)) | ((with_reducible show wpList _ _ _ (Oper.mk _ (Op.load _ _) _ _ _ _ :: _) _ _); refine wpl rfl ?_; refine (owp_loadW hS 2 rfl rfl rfl (Hfit2.out.len _ _) ?_)))
          refine (rright_ok m _ a1 c1 a2 c2 ⟨rfl, Hfit2.out⟩ _).mono ?_
          rintro e w2 ⟨rfl, hc⟩
          rw [Hr.out]
          replace hS := hS.call0 hc
          try simp only [List.cons_append, List.nil_append, List.append_nil, List.set_cons_zero, List.set_cons_succ] at hS
          clear hc
          go_wp2_with (first | ((with_reducible show wpList _ _ _ (Oper.mk _ (Op.store _ _ _) _ _ _ _ :: _) _ _); refine wpl rfl ?_; refine (owp_store1 hS 0 rfl rfl rfl rfl rfl (by simp) rfl ?_); clear hS; intro _ hS; try simp [Act.eval] at hS))
          have hat3 : RAt l at5 (PS.mk [] 10) := ⟨hat.1, fun h => absurd h (by decide)⟩
          clear hat
          have hat := hat3
          clear hat3
          obtain ⟨s3, hs3⟩ : ∃ s3, s3 = PS.mk [] 10 := ⟨_, rfl⟩
          rw [← hs3] at Hread2 hat
          have hb3 : (10 : Int) = s3.bad := by rw [hs3]
          rw [hb3] at hS
          clear hs3 hb3
          -- here: hS at [rf s3.bad, gr, gm m, x, y], hat for s3, Hread2 : readMemo l = (if s3.fin.bad ≠ 0 ..)
          go_wp2_with fail
          refine (rend_ok b _ l _ s3 _ (hS.get 0 rfl) (URd.own hr hl hS) hat).mono ?_
          rintro e w3 ⟨rfl, at5, hc, hat5⟩
          replace hS := hS.call1 0 rfl hc
          try simp only [List.cons_append, List.nil_append, List.append_nil, List.set_cons_zero, List.set_cons_succ] at hS
          clear hc hat5
          generalize s3.fin.bad = eb at *
          by_cases he : eb = 0
          · subst he
            have Hread3 := Lib.hid (show readMemo l = (m, 0) by rw [Hread2.out]; simp)
            clear Hread2 Hread
            go_wp2_with (first | ((with_reducible show wpList _ _ _ (Oper.mk _ (Op.load _ _) _ _ _ _ :: _) _ _); refine wpl rfl ?_; refine (owp_loadW hS 2 rfl rfl rfl (Hfit2.out.len _ _) ?_)) | ((with_reducible show wpList _ _ _ (Oper.mk _ (Op.store _ _ _) _ _ _ _ :: _) _ _); refine wpl rfl ?_; refine (owp_storeW hS 1 rfl rfl rfl rfl (Hfit2.out.len _ _) (Memo.Fit.zero.len _ _) (Hone.out) ?_); clear hS; intro _ hS; try simp only [List.cons_append, List.nil_append, List.append_nil, List.set_cons_zero, List.set_cons_succ] at hS))
            (try simp only [Exit.inBlock, Exit.then]); refine bodyPost_ret (res_cell2 rfl rfl hS 1 rfl (Hfit2.out.len _ _)) rfl ?_
            refine ⟨.slice a1 m.trail.length c1, .slice a2 m.sig.way.length c2, x, y, ?_, hS.pick [3, 4] rfl (by decide), ?_, ?_⟩
            · rw [Hread3.out]; rfl
            · rw [Hread3.out]; exact Hrx.out
            · rw [Hread3.out]; exact Hry.out
          · have Hread3 := Lib.hid (show readMemo l = (Memo.zero, eb) by rw [Hread2.out, if_pos he])
            have he1 : (eb != 0) = true := by simpa using he
            clear Hread2 Hread he
            go_wp2_with (first | ((with_reducible show wpList _ _ _ (Oper.mk _ (Op.build _ _) _ _ _ _ :: _) _ _); refine wpl rfl ?_; refine owp_build rfl [] rfl (build_memoR0 _) ?_) | ((with_reducible show wpList _ _ _ (Oper.mk _ (Op.store _ _ _) _ _ _ _ :: _) _ _); refine wpl rfl ?_; refine (owp_storeW hS 1 rfl rfl rfl rfl (Memo.Fit.zero.len _ _) (Memo.Fit.zero.len _ _) (Memo.one _ _ _ rfl rfl) ?_); clear hS; intro _ hS; try simp only [List.cons_append, List.nil_append, List.append_nil, List.set_cons_zero, List.set_cons_succ] at hS))
            (try simp only [Exit.inBlock, Exit.then]); refine bodyPost_ret (res_cell2 rfl rfl hS 1 rfl (Memo.Fit.zero.len _ _)) rfl ?_
            refine ⟨.slice none 0 0, .slice none 0 0, none, none, ?_, (hS.pick [] rfl (by decide)).addNone.addNone, ?_, ?_⟩
            · rw [Hread3.out]; rfl
            · rw [Hread3.out]; exact RowV.nil _ _
            · rw [Hread3.out]; exact RowV.nil _ _
      · have hb1 : (s2.bad == 0) = false := by simpa using hb0
        have Hread2 := Lib.hid (show readMemo l = (if s2.fin.bad ≠ 0 then (Memo.zero, s2.fin.bad) else (m, 0)) by rw [Hread.out]; simp [hb0])
        clear hb0
        go_wp2_with (first | ((with_reducible show wpList _ _ _ (Oper.mk _ (Op.load _ _) _ _ _ _ :: _) _ _); refine wpl rfl ?_; refine (owp_load1 hS 0 rfl rfl rfl rfl ?_)))
        generalize s2 = s3 at *
        -- here: hS at [rf s3.bad, gr, gm m, x, y], hat for s3, Hread2 : readMemo l = (if s3.fin.bad ≠ 0 ..)
        go_wp2_with fail
        refine (rend_ok b _ l _ s3 _ (hS.get 0 rfl) (URd.own hr hl hS) hat).mono ?_
        rintro e w3 ⟨rfl, at5, hc, hat5⟩
        replace hS := hS.call1 0 rfl hc
        try simp only [List.cons_append, List.nil_append, List.append_nil, List.set_cons_zero, List.set_cons_succ] at hS
        clear hc hat5
        generalize s3.fin.bad = eb at *
        by_cases he : eb = 0
        · subst he
          have Hread3 := Lib.hid (show readMemo l = (m, 0) by rw [Hread2.out]; simp)
          clear Hread2 Hread
          go_wp2_with (first | ((with_reducible show wpList _ _ _ (Oper.mk _ (Op.load _ _) _ _ _ _ :: _) _ _); refine wpl rfl ?_; refine (owp_loadW hS 2 rfl rfl rfl (Hfit2.out.len _ _) ?_)) | ((with_reducible show wpList _ _ _ (Oper.mk _ (Op.store _ _ _) _ _ _ _ :: _) _ _); refine wpl rfl ?_; refine (owp_storeW hS 1 rfl rfl rfl rfl (Hfit2.out.len _ _) (Memo.Fit.zero.len _ _) (Hone.out) ?_); clear hS; intro _ hS; try simp only [List.cons_append, List.nil_append, List.append_nil, List.set_cons_zero, List.set_cons_succ] at hS))
          (try simp only [Exit.inBlock, Exit.then]); refine bodyPost_ret (res_cell2 rfl rfl hS 1 rfl (Hfit2.out.len _ _)) rfl ?_
          refine ⟨.slice a1 m.trail.length c1, .slice a2 m.sig.way.length c2, x, y, ?_, hS.pick [3, 4] rfl (by decide), ?_, ?_⟩
          · rw [Hread3.out]; rfl
          · rw [Hread3.out]; exact Hrx.out
          · rw [Hread3.out]; exact Hry.out
        · have Hread3 := Lib.hid (show readMemo l = (Memo.zero, eb) by rw [Hread2.out, if_pos he])
          have he1 : (eb != 0) = true := by simpa using he
          clear Hread2 Hread he
          go_wp2_with (first | ((with_reducible show wpList _ _ _ (Oper.mk _ (Op.build _ _) _ _ _ _ :: _) _ _); refine wpl rfl ?_; refine owp_build rfl [] rfl (build_memoR0 _) ?_) | ((with_reducible show wpList _ _ _ (Oper.mk _ (Op.store _ _ _) _ _ _ _ :: _) _ _); refine wpl rfl ?_; refine (owp_storeW hS 1 rfl rfl rfl rfl (Memo.Fit.zero.len _ _) (Memo.Fit.zero.len _ _) (Memo.one _ _ _ rfl rfl) ?_); clear hS; intro _ hS; try simp only [List.cons_append, List.nil_append, List.append_nil, List.set_cons_zero, List.set_cons_succ] at hS))
          (try simp only [Exit.inBlock, Exit.then]); refine bodyPost_ret (res_cell2 rfl rfl hS 1 rfl (Memo.Fit.zero.len _ _)) rfl ?_
          refine ⟨.slice none 0 0, .slice none 0 0, none, none, ?_, (hS.pick [] rfl (by decide)).addNone.addNone, ?_, ?_⟩
          · rw [Hread3.out]; rfl
          · rw [Hread3.out]; exact RowV.nil _ _
          · rw [Hread3.out]; exact RowV.nil _ _
    · by_cases hk2 : k = 2
      · subst hk2
        go_upto_region 13 with (first
          | ((with_reducible show wpList _ _ _ (Oper.mk _ (Op.store _ _ _) _ _ _ _ :: _) _ _); refine wpl rfl ?_; refine owp_store1 hS 2 rfl rfl rfl rfl rfl (Memo.lt _ _ _ _ _ _ _ _ ozero_len lzero_len (by omega)) (Memo.set_channel _ _ _ _ _ _ _ _ _) ?_; clear hS; intro _ hS; try simp only [List.cons_append, List.nil_append, List.append_nil, List.set_cons_zero, List.set_cons_succ] at hS)
          | ((with_reducible show wpList _ _ _ (Oper.mk _ (Op.load _ _) _ _ _ _ :: _) _ _); refine wpl rfl ?_; first | refine owp_load1 hS 2 rfl rfl rfl (Memo.g0 _ _ _) ?_ | refine owp_load1 hS 0 rfl rfl rfl rfl ?_)
          | fail)
        go_wp2_with fail
        refine (rnum_ok 8 (by omega) (by omega) b _ l _ _ _ (hS.get 0 rfl) (URd.own hr hl hS) hat).mono ?_; rintro e w1 ⟨rfl, at2, hc, hat2⟩; replace hS := hS.call1 0 rfl hc; try simp only [List.cons_append, List.nil_append, List.append_nil, List.set_cons_zero, List.set_cons_succ] at hS; clear hc hat; have hat := hat2; clear hat2
        go_wp2_with (first
          | ((with_reducible show wpList _ _ _ (Oper.mk _ (Op.store _ _ _) _ _ _ _ :: _) _ _); refine wpl rfl ?_; refine owp_store1 hS 2 rfl rfl rfl rfl rfl (Memo.lt _ _ _ _ _ _ _ _ ozero_len lzero_len (by omega)) (Memo.set_round _ _ _ _ _ _ _ _ _) ?_; clear hS; intro _ hS; try simp only [List.cons_append, List.nil_append, List.append_nil, List.set_cons_zero, List.set_cons_succ] at hS)
          | fail)
        refine (rtakeSig_ok b _ l _ _ _ (hS.get 0 rfl) (URd.own hr hl hS) hat).mono ?_
        rintro e w3 ⟨wv, at4, y, rfl, hc, hat2, hrow⟩
        replace hS := hS.call1 0 rfl hc
        try simp only [List.cons_append, List.nil_append, List.append_nil, List.set_cons_zero, List.set_cons_succ] at hS
        clear hc hat
        have hat := hat2
        clear hat2
        obtain ⟨a2, c2, rfl⟩ := hrow.isSl
        have Hrow2 := Lib.hid hrow
        clear hrow
        have Hl := Lib.hid (takeSig_lens (s1.num 8).2)
        go_upto_region 15 with (first
          | ((with_reducible show wpList _ _ _ (Oper.mk _ (Op.store _ _ _) _ _ _ _ :: _) _ _); refine wpl rfl ?_; refine owp_store hS 2 rfl rfl rfl rfl (Sig.len _ _ (LSig.len _ Hl.out.1 Hl.out.2)) (Memo.le _ _ _ _ _ _ _ _ ozero_len lzero_len (by omega)) (Sig.one _ _ rfl) (Memo.set_sig _ _ _ _ _ _ _ _ ozero_len lzero_len _ _) ?_; clear hS; intro _ hS; try simp only [List.cons_append, List.nil_append, List.append_nil, List.set_cons_zero, List.set_cons_succ] at hS)
          | ((with_reducible show wpList _ _ _ (Oper.mk _ (Op.load _ _) _ _ _ _ :: _) _ _); refine wpl rfl ?_; first | refine owp_load1 hS 2 rfl rfl rfl (Memo.g0 _ _ _) ?_ | refine owp_load1 hS 0 rfl rfl rfl rfl ?_)
          | fail)
        replace hS := hS.addNone.pick [0, 1, 2, 4, 3] rfl (by decide)
        have hmid := RMid.intro hS hat ⟨zb_length 32, Hl.out.1, Hl.out.2⟩ (RowV.nil _ _) Hrow2.out (readBody2 ch s1)
        -- here: hmid : RMid w b gr gm _ l (readBody k ch s1) _
        clear hS hat
        obtain ⟨tv, wv, x, y, at5, hS, hat, hfit, hrx, hry⟩ := hmid
        generalize hms : readBody _ ch s1 = ms at *
        obtain ⟨m, s2⟩ := ms
        have HB := Lib.hid hms
        clear hms
        obtain ⟨a1, c1, rfl⟩ := hrx.isSl
        obtain ⟨a2, c2, rfl⟩ := hry.isSl
        have Hrx := Lib.hid hrx
        have Hry := Lib.hid hry
        have Hfit2 := Lib.hid hfit
        have Hone := Lib.hid (Memo.one m (.slice a1 m.trail.length c1) (.slice a2 m.sig.way.length c2) rfl rfl)
        clear hrx hry hfit
        simp only [] at hS hat
        -- here: hS at [rf s2.bad, gr, gm (m.cells ..), x, y], HB : readBody k ch s1 = (m, s2)
        by_cases hb0 : s2.bad = 0
        · have hb1 : (s2.bad == 0) = true := by simpa using hb0
          have Hb0 := Lib.hid hb0
          clear hb0
          cases hr2 : m.right with
          | true =>
            have Hr := Lib.hid hr2
            have Hread2 := Lib.hid (show readMemo l = (if s2.fin.bad ≠ 0 then (Memo.zero, s2.fin.bad) else (m, 0)) by rw [Hread.out]; simp [Hr.out])
            clear hr2
            go_wp2_with (first | ((with_reducible show wpList _ _ _ (Oper.mk _ (Op.load _ _) _ _ _ _ :: _) _ _); refine wpl rfl ?_; refine (owp_load1 hS 0 rfl rfl rfl rfl ?_)) | ((with_reducible show wpList _ _ _ (Oper.mk _ (Op.load _ _) _ _ _ _ :: _) _ _); refine wpl rfl ?_; refine (owp_loadW hS 2 rfl rfl rfl (Hfit2.out.len _ _) ?_)))
            refine (rright_ok m _ a1 c1 a2 c2 ⟨rfl, Hfit2.out⟩ _).mono ?_
            rintro e w2 ⟨rfl, hc⟩
            rw [Hr.out]
            replace hS := hS.call0 hc
            try simp only [List.cons_append, List.nil_append, List.append_nil, List.set_cons_zero, List.set_cons_succ] at hS
            clear hc
            go_wp2_with (first | ((with_reducible show wpList _ _ _ (Oper.mk _ (Op.store _ _ _) _ _ _ _ :: _) _ _); refine wpl rfl ?_; refine (owp_store1 hS 0 rfl rfl rfl rfl rfl (by simp) rfl ?_); clear hS; intro _ hS; try simp [Act.eval] at hS))
            generalize s2 = s3 at *
            -- here: hS at [rf s3.bad, gr, gm m, x, y], hat for s3, Hread2 : readMemo l = (if s3.fin.bad ≠ 0 ..)
            go_wp2_with fail
            refine (rend_ok b _ l _ s3 _ (hS.get 0 rfl) (URd.own hr hl hS) hat).mono ?_
            rintro e w3 ⟨rfl, at5, hc, hat5⟩
            replace hS := hS.call1 0 rfl hc
            try simp only [List.cons_append, List.nil_append, List.append_nil, List.set_cons_zero, List.set_cons_succ] at hS
            clear hc hat5
            generalize s3.fin.bad = eb at *
            by_cases he : eb = 0
            · subst he
              have Hread3 := Lib.hid (show readMemo l = (m, 0) by rw [Hread2.out]; simp)
              clear Hread2 Hread
              go_wp2_with (first | ((with_reducible show wpList _ _ _ (Oper.mk _ (Op.load _ _) _ _ _ _ :: _) _ _); refine wpl rfl ?_; refine (owp_loadW hS 2 rfl rfl rfl (Hfit2.out.len _ _) ?_)) | ((with_reducible show wpList _ _ _ (Oper.mk _ (Op.store _ _ _) _ _ _ _ :: _) _ _); refine wpl rfl ?_; refine (owp_storeW hS 1 rfl rfl rfl rfl (Hfit2.out.len _ _) (Memo.Fit.zero.len _ _) (Hone.out) ?_); clear hS; intro _ hS; try simp only [List.cons_append, List.nil_append, List.append_nil, List.set_cons_zero, List.set_cons_succ] at hS))
              (try simp only [Exit.inBlock, Exit.then]); refine bodyPost_ret (res_cell2 rfl rfl hS 1 rfl (Hfit2.out.len _ _)) rfl ?_
              refine ⟨.slice a1 m.trail.length c1, .slice a2 m.sig.way.length c2, x, y, ?_, hS.pick [3, 4] rfl (by decide), ?_, ?_⟩
              · rw [Hread3.out]; rfl
              · rw [Hread3.out]; exact Hrx.out
              · rw [Hread3.out]; exact Hry.out
            · have Hread3 := Lib.hid (show readMemo l = (Memo.zero, eb) by rw [Hread2.out, if_pos he])
              have he1 : (eb != 0) = true := by simpa using he
              clear Hread2 Hread he
              go_wp2_with (first | ((with_reducible show wpList _ _ _ (Oper.mk _ (Op.build _ _) _ _ _ _ :: _) _ _); refine wpl rfl ?_; refine owp_build rfl [] rfl (build_memoR0 _) ?_) | ((with_reducible show wpList _ _ _ (Oper.mk _ (Op.store _ _ _) _ _ _ _ :: _) _ _); refine wpl rfl ?_; refine (owp_storeW hS 1 rfl rfl rfl rfl (Memo.Fit.zero.len _ _) (Memo.Fit.zero.len _ _) (Memo.one _ _ _ rfl rfl) ?_); clear hS; intro _ hS; try simp only [List.cons_append, List.nil_append, List.append_nil, List.set_cons_zero, List.set_cons_succ] at hS))
              (try simp only [Exit.inBlock, Exit.then]); refine bodyPost_ret (res_cell2 rfl rfl hS 1 rfl (Memo.Fit.zero.len _ _)) rfl ?_
              refine ⟨.slice none 0 0, .slice none 0 0, none, none, ?_, (hS.pick [] rfl (by decide)).addNone.addNone, ?_, ?_⟩
              · rw [Hread3.out]; rfl
              · rw [Hread3.out]; exact RowV.nil _ _
              · rw [Hread3.out]; exact RowV.nil _ _
          | false =>
            have Hr := Lib.hid hr2
            have h3 : s2.fail 10 = ⟨[], 10⟩ := by simp [PS.fail, Hb0.out]
            have Hread2 := Lib.hid (show readMemo l = (if (PS.mk [] 10).fin.bad ≠ 0 then (Memo.zero, (PS.mk [] 10).fin.bad) else (m, 0)) by rw [Hread.out]; simp [Hr.out, Hb0.out, h3])
            clear hr2 h3
            go_wp2_with (first | ((with_reducible show wpList _ _ _ (Oper.mk _ (Op.load _ _) _ _ _ _ :: _) _ _); refine wpl rfl ?_; refine (owp_load1 hS 0 rfl rfl rfl rfl ?_)) | ((with_reducible show wpList _ _ _ (Oper.mk _ (Op.load _ _) _ _ _ _ :: _) _ _); refine wpl rfl ?_; refine (owp_loadW hS 2 rfl rfl rfl (Hfit2.out.len _ _) ?_)))
            refine (rright_ok m _ a1 c1 a2 c2 ⟨rfl, Hfit2.out⟩ _).mono ?_
            rintro e w2 ⟨rfl, hc⟩
            rw [Hr.out]
            replace hS := hS.call0 hc
            try simp only [List.cons_append, List.nil_append, List.append_nil, List.set_cons_zero, List.set_cons_succ] at hS
            clear hc
            go_wp2_with (first | ((with_reducible show wpList _ _ _ (Oper.mk _ (Op.store _ _ _) _ _ _ _ :: _) _ _); refine wpl rfl ?_; refine (owp_store1 hS 0 rfl rfl rfl rfl rfl (by simp) rfl ?_); clear hS; intro _ hS; try simp [Act.eval] at hS))
            have hat3 : RAt l at5 (PS.mk [] 10) := ⟨hat.1, fun h => absurd h (by decide)⟩
            clear hat
            have hat := hat3
            clear hat3
            obtain ⟨s3, hs3⟩ : ∃ s3, s3 = PS.mk [] 10 := ⟨_, rfl⟩
            rw [← hs3] at Hread2 hat
            have hb3 : (10 : Int) = s3.bad := by rw [hs3]
            rw [hb3] at hS
            clear hs3 hb3
            -- here: hS at [rf s3.bad, gr, gm m, x, y], hat for s3, Hread2 : readMemo l = (if s3.fin.bad ≠ 0 ..)
            go_wp2_with fail
            refine (rend_ok b _ l _ s3 _ (hS.get 0 rfl) (URd.own hr hl hS) hat).mono ?_
            rintro e w3 ⟨rfl, at5, hc, hat5⟩
            replace hS := hS.call1 0 rfl hc
            try simp only [List.cons_append, List.nil_append, List.append_nil, List.set_cons_zero, List.set_cons_succ] at hS
            clear hc hat5
            generalize s3.fin.bad = eb at *
            by_cases he : eb = 0
            · subst he
              have Hread3 := Lib.hid (show readMemo l = (m, 0) by rw [Hread2.out]; simp)
              clear Hread2 Hread
              go_wp2_with (first | ((with_reducible show wpList _ _ _ (Oper.mk _ (Op.load _ _) _ _ _ _ :: _) _ _); refine wpl rfl ?_; refine (owp_loadW hS 2 rfl rfl rfl (Hfit2.out.len _ _) ?_)) | ((with_reducible show wpList _ _ _ (Oper.mk _ (Op.store _ _ _) _ _ _ _ :: _) _ _); refine wpl rfl ?_; refine (owp_storeW hS 1 rfl rfl rfl rfl (Hfit2.out.len _ _) (Memo.Fit.zero.len _ _) (Hone.out) ?_); clear hS; intro _ hS; try simp only [List.cons_append, List.nil_append, List.append_nil, List.set_cons_zero, List.set_cons_succ] at hS))
              (try simp only [Exit.inBlock, Exit.then]); refine bodyPost_ret (res_cell2 rfl rfl hS 1 rfl (Hfit2.out.len _ _)) rfl ?_
              refine ⟨.slice a1 m.trail.length c1, .slice a2 m.sig.way.length c2, x, y, ?_, hS.pick [3, 4] rfl (by decide), ?_, ?_⟩
              · rw [Hread3.out]; rfl
              · rw [Hread3.out]; exact Hrx.out
              · rw [Hread3.out]; exact Hry.out
            · have Hread3 := Lib.hid (show readMemo l = (Memo.zero, eb) by rw [Hread2.out, if_pos he])
              have he1 : (eb != 0) = true := by simpa using he
              clear Hread2 Hread he
              go_wp2_with (first | ((with_reducible show wpList _ _ _ (Oper.mk _ (Op.build _ _) _ _ _ _ :: _) _ _); refine wpl rfl ?_; refine owp_build rfl [] rfl (build_memoR0 _) ?_) | ((with_reducible show wpList _ _ _ (Oper.mk _ (Op.store _ _ _) _ _ _ _ :: _) _ _); refine wpl rfl ?_; refine (owp_storeW hS 1 rfl rfl rfl rfl (Memo.Fit.zero.len _ _) (Memo.Fit.zero.len _ _) (Memo.one _ _ _ rfl rfl) ?_); clear hS; intro _ hS; try simp only [List.cons_append, List.nil_append, List.append_nil, List.set_cons_zero, List.set_cons_succ] at hS))
              (try simp only [Exit.inBlock, Exit.then]); refine bodyPost_ret (res_cell2 rfl rfl hS 1 rfl (Memo.Fit.zero.len _ _)) rfl ?_
              refine ⟨.slice none 0 0, .slice none 0 0, none, none, ?_, (hS.pick [] rfl (by decide)).addNone.addNone, ?_, ?_⟩
              · rw [Hread3.out]; rfl
              · rw [Hread3.out]; exact RowV.nil _ _
              · rw [Hread3.out]; exact RowV.nil _ _
        · have hb1 : (s2.bad == 0) = false := by simpa using hb0
          have Hread2 := Lib.hid (show readMemo l = (if s2.fin.bad ≠ 0 then (Memo.zero, s2.fin.bad) else (m, 0)) by rw [Hread.out]; simp [hb0])
          clear hb0
          go_wp2_with (first | ((with_reducible show wpList _ _ _ (Oper.mk _ (Op.load _ _) _ _ _ _ :: _) _ _); refine wpl rfl ?_; refine (owp_load1 hS 0 rfl rfl rfl rfl ?_)))
          generalize s2 = s3 at *
          -- here: hS at [rf s3.bad, gr, gm m, x, y], hat for s3, Hread2 : readMemo l = (if s3.fin.bad ≠ 0 ..)
          go_wp2_with fail
          refine (rend_ok b _ l _ s3 _ (hS.get 0 rfl) (URd.own hr hl hS) hat).mono ?_
          rintro e w3 ⟨rfl, at5, hc, hat5⟩
          replace hS := hS.call1 0 rfl hc
          try simp only [List.cons_append, List.nil_append, List.append_nil, List.set_cons_zero, List.set_cons_succ] at hS
          clear hc hat5
          generalize s3.fin.bad = eb at *
          by_cases he : eb = 0
          · subst he
            have Hread3 := Lib.hid (show readMemo l = (m, 0) by rw [Hread2.out]; simp)
            clear Hread2 Hread
            go_wp2_with (first | ((with_reducible show wpList _ _ _ (Oper.mk _ (Op.load _ _) _ _ _ _ :: _) _ _); refine wpl rfl ?_; refine (owp_loadW hS 2 rfl rfl rfl (Hfit2.out.len _ _) ?_)) | ((with_reducible show wpList _ _ _ (Oper.mk _ (Op.store _ _ _) _ _ _ _ :: _) _ _); refine wpl rfl ?_; refine (owp_storeW hS 1 rfl rfl rfl rfl (Hfit2.out.len _ _) (Memo.Fit.zero.len _ _) (Hone.out) ?_); clear hS; intro _ hS; try simp only [List.cons_append, List.nil_append, List.append_nil, List.set_cons_zero, List.set_cons_succ] at hS))
            (try simp only [Exit.inBlock, Exit.then]); refine bodyPost_ret (res_cell2 rfl rfl hS 1 rfl (Hfit2.out.len _ _)) rfl ?_
            refine ⟨.slice a1 m.trail.length c1, .slice a2 m.sig.way.length c2, x, y, ?_, hS.pick [3, 4] rfl (by decide), ?_, ?_⟩
            · rw [Hread3.out]; rfl
            · rw [Hread3.out]; exact Hrx.out
            · rw [Hread3.out]; exact Hry.out
          · have Hread3 := Lib.hid (show readMemo l = (Memo.zero, eb) by rw [Hread2.out, if_pos he])
            have he1 : (eb != 0) = true := by simpa using he
            clear Hread2 Hread he
            go_wp2_with (first | ((with_reducible show wpList _ _ _ (Oper.mk _ (Op.build _ _) _ _ _ _ :: _) _ _); refine wpl rfl ?_; refine owp_build rfl [] rfl (build_memoR0 _) ?_) | ((with_reducible show wpList _ _ _ (Oper.mk _ (Op.store _ _ _) _ _ _ _ :: _) _ _); refine wpl rfl ?_; refine (owp_storeW hS 1 rfl rfl rfl rfl (Memo.Fit.zero.len _ _) (Memo.Fit.zero.len _ _) (Memo.one _ _ _ rfl rfl) ?_); clear hS; intro _ hS; try simp only [List.cons_append, List.nil_append, List.append_nil, List.set_cons_zero, List.set_cons_succ] at hS))
            (try simp only [Exit.inBlock, Exit.then]); refine bodyPost_ret (res_cell2 rfl rfl hS 1 rfl (Memo.Fit.zero.len _ _)) rfl ?_
            refine ⟨.slice none 0 0, .slice none 0 0, none, none, ?_, (hS.pick [] rfl (by decide)).addNone.addNone, ?_, ?_⟩
            · rw [Hread3.out]; rfl
            · rw [Hread3.out]; exact RowV.nil _ _
            · rw [Hread3.out]; exact RowV.nil _ _
      · have hk3 : (2 : Int) < (k : Int) := by omega
        have e1 : ((k : Int) == 1) = false := by simp; omega
        have e2 : ((k : Int) == 2) = false := by simp; omega
        have HB3 := Lib.hid (readBody3 k ch s1 hk0 hk1 hk2)
        by_cases hb0 : s1.bad = 0
        · have hb1 : (s1.bad == 0) = true := by simpa using hb0
          have Hb0 := Lib.hid hb0
          clear hb0 hk0 hk1 hk2
          go_upto_region 15 with (first
            | ((with_reducible show wpList _ _ _ (Oper.mk _ (Op.store _ _ _) _ _ _ _ :: _) _ _); refine wpl rfl ?_; refine owp_store1 hS 2 rfl rfl rfl rfl rfl (Memo.lt _ _ _ _ _ _ _ _ ozero_len lzero_len (by omega)) (Memo.set_channel _ _ _ _ _ _ _ _ _) ?_; clear hS; intro _ hS; try simp only [List.cons_append, List.nil_append, List.append_nil, List.set_cons_zero, List.set_cons_succ] at hS)
            | ((with_reducible show wpList _ _ _ (Oper.mk _ (Op.load _ _) _ _ _ _ :: _) _ _); refine wpl rfl ?_; first | refine owp_load1 hS 2 rfl rfl rfl (Memo.g0 _ _ _) ?_ | refine owp_load1 hS 0 rfl rfl rfl rfl ?_)
            | ((with_reducible show wpList _ _ _ (Oper.mk _ (Op.store _ _ _) _ _ _ _ :: _) _ _); refine wpl rfl ?_; refine (owp_store1 hS 0 rfl rfl rfl rfl rfl (by simp) rfl ?_); clear hS; intro _ hS; try simp [Act.eval] at hS))
          have hat3 : RAt l _ (s1.fail 10) := ⟨hat.1, fun h => absurd h (by simp [PS.fail, Hb0.out])⟩
          have hb3 : (10 : Int) = (s1.fail 10).bad := by simp [PS.fail, Hb0.out]
          rw [hb3] at hS
          replace hS := hS.addNone.addNone
          try simp only [List.cons_append, List.nil_append, List.append_nil, List.set_cons_zero, List.set_cons_succ] at hS
          have hmid := RMid.intro hS hat3 Memo.Fit.zero' (RowV.nil _ _) (RowV.nil _ _) HB3.out
          clear hat3 hb3
          -- here: hmid : RMid w b gr gm _ l (readBody k ch s1) _
          clear hS hat
          obtain ⟨tv, wv, x, y, at5, hS, hat, hfit, hrx, hry⟩ := hmid
          generalize hms : readBody _ ch s1 = ms at *
          obtain ⟨m, s2⟩ := ms
          have HB := Lib.hid hms
          clear hms
          obtain ⟨a1, c1, rfl⟩ := hrx.isSl
          obtain ⟨a2, c2, rfl⟩ := hry.isSl
          have Hrx := Lib.hid hrx
          have Hry := Lib.hid hry
          have Hfit2 := Lib.hid hfit
          have Hone := Lib.hid (Memo.one m (.slice a1 m.trail.length c1) (.slice a2 m.sig.way.length c2) rfl rfl)
          clear hrx hry hfit
          simp only [] at hS hat
          -- here: hS at [rf s2.bad, gr, gm (m.cells ..), x, y], HB : readBody k ch s1 = (m, s2)
          by_cases hb0 : s2.bad = 0
          · have hb1 : (s2.bad == 0) = true := by simpa using hb0
            have Hb0 := Lib.hid hb0
            clear hb0
            cases hr2 : m.right with
            | true =>
              have Hr := Lib.hid hr2
              have Hread2 := Lib.hid (show readMemo l = (if s2.fin.bad ≠ 0 then (Memo.zero, s2.fin.bad) else (m, 0)) by rw [Hread.out]; simp [Hr.out])
              clear hr2
              go_wp2_with (first | ((with_reducible show wpList _ _ _ (Oper.mk _ (Op.load _ _) _ _ _ _ :: _) _ _); refine wpl rfl ?_; refine (owp_load1 hS 0 rfl rfl rfl rfl ?_)) | ((with_reducible show wpList _ _ _ (Oper.mk _ (Op.load _ _) _ _ _ _ :: _) _ _); refine wpl rfl ?_; refine (owp_loadW hS 2 rfl rfl rfl (Hfit2.out.len _ _) ?_)))
              refine (rright_ok m _ a1 c1 a2 c2 ⟨rfl, Hfit2.out⟩ _).mono ?_
              rintro e w2 ⟨rfl, hc⟩
              rw [Hr.out]
              replace hS := hS.call0 hc
              try simp only [List.cons_append, List.nil_append, List.append_nil, List.set_cons_zero, List.set_cons_succ] at hS
              clear hc
              go_wp2_with (first | ((with_reducible show wpList _ _ _ (Oper.mk _ (Op.store _ _ _) _ _ _ _ :: _) _ _); refine wpl rfl ?_; refine (owp_store1 hS 0 rfl rfl rfl rfl rfl (by simp) rfl ?_); clear hS; intro _ hS; try simp [Act.eval] at hS))
              generalize s2 = s3 at *
              -- here: hS at [rf s3.bad, gr, gm m, x, y], hat for s3, Hread2 : readMemo l = (if s3.fin.bad ≠ 0 ..)
              go_wp2_with fail
              refine (rend_ok b _ l _ s3 _ (hS.get 0 rfl) (URd.own hr hl hS) hat).mono ?_
              rintro e w3 ⟨rfl, at5, hc, hat5⟩
              replace hS := hS.call1 0 rfl hc
              try simp only [List.cons_append, List.nil_append, List.append_nil, List.set_cons_zero, List.set_cons_succ] at hS
              clear hc hat5
              generalize s3.fin.bad = eb at *
              by_cases he : eb = 0
              · subst he
                have Hread3 := Lib.hid (show readMemo l = (m, 0) by rw [Hread2.out]; simp)
                clear Hread2 Hread
                go_wp2_with (first | ((with_reducible show wpList _ _ _ (Oper.mk _ (Op.load _ _) _ _ _ _ :: _) _ _); refine wpl rfl ?_; refine (owp_loadW hS 2 rfl rfl rfl (Hfit2.out.len _ _) ?_)) | ((with_reducible show wpList _ _ _ (Oper.mk _ (Op.store _ _ _) _ _ _ _ :: _) _ _); refine wpl rfl ?_; refine (owp_storeW hS 1 rfl rfl rfl rfl (Hfit2.out.len _ _) (Memo.Fit.zero.len _ _) (Hone.out) ?_); clear hS; intro _ hS; try simp only [List.cons_append, List.nil_append, List.append_nil, List.set_cons_zero, List.set_cons_succ] at hS))
                (try simp only [Exit.inBlock, Exit.then]); refine bodyPost_ret (res_cell2 rfl rfl hS 1 rfl (Hfit2.out.len _ _)) rfl ?_
                refine ⟨.slice a1 m.trail.length c1, .slice a2 m.sig.way.length c2, x, y, ?_, hS.pick [3, 4] rfl (by decide), ?_, ?_⟩
                · rw [Hread3.out]; rfl
                · rw [Hread3.out]; exact Hrx.out
                · rw [Hread3.out]; exact Hry.out
              · have Hread3 := Lib.hid (show readMemo l = (Memo.zero, eb) by rw [Hread2.out, if_pos he])
                have he1 : (eb != 0) = true := by simpa using he
                clear Hread2 Hread he
                go_wp2_with (first | ((with_reducible show wpList _ _ _ (Oper.mk _ (Op.build _ _) _ _ _ _ :: _) _ _); refine wpl rfl ?_; refine owp_build rfl [] rfl (build_memoR0 _) ?_) | ((with_reducible show wpList _ _ _ (Oper.mk _ (Op.store _ _ _) _ _ _ _ :: _) _ _); refine wpl rfl ?_; refine (owp_storeW hS 1 rfl rfl rfl rfl (Memo.Fit.zero.len _ _) (Memo.Fit.zero.len _ _) (Memo.one _ _ _ rfl rfl) ?_); clear hS; intro _ hS; try simp only [List.cons_append, List.nil_append, List.append_nil, List.set_cons_zero, List.set_cons_succ] at hS))
                (try simp only [Exit.inBlock, Exit.then]); refine bodyPost_ret (res_cell2 rfl rfl hS 1 rfl (Memo.Fit.zero.len _ _)) rfl ?_
                refine ⟨.slice none 0 0, .slice none 0 0, none, none, ?_, (hS.pick [] rfl (by decide)).addNone.addNone, ?_, ?_⟩
                · rw [Hread3.out]; rfl
                · rw [Hread3.out]; exact RowV.nil _ _
                · rw [Hread3.out]; exact RowV.nil _ _
            | false =>
              have Hr := Lib.hid hr2
              have h3 : s2.fail 10 = ⟨[], 10⟩ := by simp [PS.fail, Hb0.out]
              have Hread2 := Lib.hid (show readMemo l = (if (PS.mk [] 10).fin.bad ≠ 0 then (Memo.zero, (PS.mk [] 10).fin.bad) else (m, 0)) by rw [Hread.out]; simp [Hr.out, Hb0.out, h3])
              clear hr2 h3
              go_wp2_with (first | ((with_reducible show wpList _ _ _ (Oper.mk _ (Op.load _ _) _ _ _ _ :: _) _ _); refine wpl rfl ?_; refine (owp_load1 hS 0 rfl rfl rfl rfl ?_)) | ((with_reducible show wpList _ _ _ (Oper.mk _ (Op.load _ _) _ _ _ _ :: _) _ _); refine wpl rfl ?_; refine (owp_loadW hS 2 rfl rfl rfl (Hfit2.out.len _ _) ?_)))
              refine (rright_ok m _ a1 c1 a2 c2 ⟨rfl, Hfit2.out⟩ _).mono ?_
              rintro e w2 ⟨rfl, hc⟩
              rw [Hr.out]
              replace hS := hS.call0 hc
              try simp only [List.cons_append, List.nil_append, List.append_nil, List.set_cons_zero, List.set_cons_succ] at hS
              clear hc
              go_wp2_with (first | ((with_reducible show wpList _ _ _ (Oper.mk _ (Op.store _ _ _) _ _ _ _ :: _) _ _); refine wpl rfl ?_; refine (owp_store1 hS 0 rfl rfl rfl rfl rfl (by simp) rfl ?_); clear hS; intro _ hS; try simp [Act.eval] at hS))
              have hat3 : RAt l at5 (PS.mk [] 10) := ⟨hat.1, fun h => absurd h (by decide)⟩
              clear hat
              have hat := hat3
              clear hat3
              obtain ⟨s3, hs3⟩ : ∃ s3, s3 = PS.mk [] 10 := ⟨_, rfl⟩
              rw [← hs3] at Hread2 hat
              have hb3 : (10 : Int) = s3.bad := by rw [hs3]
              rw [hb3] at hS
              clear hs3 hb3
              -- here: hS at [rf s3.bad, gr, gm m, x, y], hat for s3, Hread2 : readMemo l = (if s3.fin.bad ≠ 0 ..)
              go_wp2_with fail
              refine (rend_ok b _ l _ s3 _ (hS.get 0 rfl) (URd.own hr hl hS) hat).mono ?_
              rintro e w3 ⟨rfl, at5, hc, hat5⟩
              replace hS := hS.call1 0 rfl hc
              try simp only [List.cons_append, List.nil_append, List.append_nil, List.set_cons_zero, List.set_cons_succ] at hS
              clear hc hat5
              generalize s3.fin.bad = eb at *
              by_cases he : eb = 0
              · subst he
                have Hread3 := Lib.hid (show readMemo l = (m, 0) by rw [Hread2.out]; simp)
                clear Hread2 Hread
                go_wp2_with (first | ((with_reducible show wpList _ _ _ (Oper.mk _ (Op.load _ _) _ _ _ _ :: _) _ _); refine wpl rfl ?_; refine (owp_loadW hS 2 rfl rfl rfl (Hfit2.out.len _ _) ?_)) | ((with_reducible show wpList _ _ _ (Oper.mk _ (Op.store _ _ _) _ _ _ _ :: _) _ _); refine wpl rfl ?_; refine (owp_storeW hS 1 rfl rfl rfl rfl (Hfit2.out.len _ _) (Memo.Fit.zero.len _ _) (Hone.out) ?_); clear hS; intro _ hS; try simp only [List.cons_append, List.nil_append, List.append_nil, List.set_cons_zero, List.set_cons_succ] at hS))
                (try simp only [Exit.inBlock, Exit.then]); refine bodyPost_ret (res_cell2 rfl rfl hS 1 rfl (Hfit2.out.len _ _)) rfl ?_
                refine ⟨.slice a1 m.trail.length c1, .slice a2 m.sig.way.length c2, x, y, ?_, hS.pick [3, 4] rfl (by decide), ?_, ?_⟩
                · rw [Hread3.out]; rfl
                · rw [Hread3.out]; exact Hrx.out
                · rw [Hread3.out]; exact Hry.out
              · have Hread3 := Lib.hid (show readMemo l = (Memo.zero, eb) by rw [Hread2.out, if_pos he])
                have he1 : (eb != 0) = true := by simpa using he
                clear Hread2 Hread he
                go_wp2_with (first | ((with_reducible show wpList _ _ _ (Oper.mk _ (Op.build _ _) _ _ _ _ :: _) _ _); refine wpl rfl ?_; refine owp_build rfl [] rfl (build_memoR0 _) ?_) | ((with_reducible show wpList _ _ _ (Oper.mk _ (Op.store _ _ _) _ _ _ _ :: _) _ _); refine wpl rfl ?_; refine (owp_storeW hS 1 rfl rfl rfl rfl (Memo.Fit.zero.len _ _) (Memo.Fit.zero.len _ _) (Memo.one _ _ _ rfl rfl) ?_); clear hS; intro _ hS; try simp only [List.cons_append, List.nil_append, List.append_nil, List.set_cons_zero, List.set_cons_succ] at hS))
                (try simp only [Exit.inBlock, Exit.then]); refine bodyPost_ret (res_cell2 rfl rfl hS 1 rfl (Memo.Fit.zero.len _ _)) rfl ?_
                refine ⟨.slice none 0 0, .slice none 0 0, none, none, ?_, (hS.pick [] rfl (by decide)).addNone.addNone, ?_, ?_⟩
                · rw [Hread3.out]; rfl
                · rw [Hread3.out]; exact RowV.nil _ _
                · rw [Hread3.out]; exact RowV.nil _ _
          · have hb1 : (s2.bad == 0) = false := by simpa using hb0
            have Hread2 := Lib.hid (show readMemo l = (if s2.fin.bad ≠ 0 then (Memo.zero, s2.fin.bad) else (m, 0)) by rw [Hread.out]; simp [hb0])
            clear hb0
            go_wp2_with (first | ((with_reducible show wpList _ _ _ (Oper.mk _ (Op.load _ _) _ _ _ _ :: _) _ _); refine wpl rfl ?_; refine (owp_load1 hS 0 rfl rfl rfl rfl ?_)))
            generalize s2 = s3 at *
            -- here: hS at [rf s3.bad, gr, gm m, x, y], hat for s3, Hread2 : readMemo l = (if s3.fin.bad ≠ 0 ..)
            go_wp2_with fail
            refine (rend_ok b _ l _ s3 _ (hS.get 0 rfl) (URd.own hr hl hS) hat).mono ?_
            rintro e w3 ⟨rfl, at5, hc, hat5⟩
            replace hS := hS.call1 0 rfl hc
            try simp only [List.cons_append, List.nil_append, List.append_nil, List.set_cons_zero, List.set_cons_succ] at hS
            clear hc hat5
            generalize s3.fin.bad = eb at *
            by_cases he : eb = 0
            · subst he
              have Hread3 := Lib.hid (show readMemo l = (m, 0) by rw [Hread2.out]; simp)
              clear Hread2 Hread
              go_wp2_with (first | ((with_reducible show wpList _ _ _ (Oper.mk _ (Op.load _ _) _ _ _ _ :: _) _ _); refine wpl rfl ?_; refine (owp_loadW hS 2 rfl rfl rfl (Hfit2.out.len _ _) ?_)) | ((with_reducible show wpList _ _ _ (Oper.mk _ (Op.store _ _ _) _ _ _ _ :: _) _ _); refine wpl rfl ?_; refine (owp_storeW hS 1 rfl rfl rfl rfl (Hfit2.out.len _ _) (Memo.Fit.zero.len _ _) (Hone.out) ?_); clear hS; intro _ hS; try simp only [List.cons_append, List.nil_append, List.append_nil, List.set_cons_zero, List.set_cons_succ] at hS))
              (try simp only [Exit.inBlock, Exit.then]); refine bodyPost_ret (res_cell2 rfl rfl hS 1 rfl (Hfit2.out.len _ _)) rfl ?_
              refine ⟨.slice a1 m.trail.length c1, .slice a2 m.sig.way.length c2, x, y, ?_, hS.pick [3, 4] rfl (by decide), ?_, ?_⟩
              · rw [Hread3.out]; rfl
              · rw [Hread3.out]; exact Hrx.out
              · rw [Hread3.out]; exact Hry.out
            · have Hread3 := Lib.hid (show readMemo l = (Memo.zero, eb) by rw [Hread2.out, if_pos he])
              have he1 : (eb != 0) = true := by simpa using he
              clear Hread2 Hread he
              go_wp2_with (first | ((with_reducible show wpList _ _ _ (Oper.mk _ (Op.build _ _) _ _ _ _ :: _) _ _); refine wpl rfl ?_; refine owp_build rfl [] rfl (build_memoR0 _) ?_) | ((with_reducible show wpList _ _ _ (Oper.mk _ (Op.store _ _ _) _ _ _ _ :: _) _ _); refine wpl rfl ?_; refine (owp_storeW hS 1 rfl rfl rfl rfl (Memo.Fit.zero.len _ _) (Memo.Fit.zero.len _ _) (Memo.one _ _ _ rfl rfl) ?_); clear hS; intro _ hS; try simp only [List.cons_append, List.nil_append, List.append_nil, List.set_cons_zero, List.set_cons_succ] at hS))
              (try simp only [Exit.inBlock, Exit.then]); refine bodyPost_ret (res_cell2 rfl rfl hS 1 rfl (Memo.Fit.zero.len _ _)) rfl ?_
              refine ⟨.slice none 0 0, .slice none 0 0, none, none, ?_, (hS.pick [] rfl (by decide)).addNone.addNone, ?_, ?_⟩
              · rw [Hread3.out]; rfl
              · rw [Hread3.out]; exact RowV.nil _ _
              · rw [Hread3.out]; exact RowV.nil _ _
        · have hb1 : (s1.bad == 0) = false := by simpa using hb0
          have Hb0 := Lib.hid hb0
          clear hb0 hk0 hk1 hk2
          go_upto_region 15 with (first
            | ((with_reducible show wpList _ _ _ (Oper.mk _ (Op.store _ _ _) _ _ _ _ :: _) _ _); refine wpl rfl ?_; refine owp_store1 hS 2 rfl rfl rfl rfl rfl (Memo.lt _ _ _ _ _ _ _ _ ozero_len lzero_len (by omega)) (Memo.set_channel _ _ _ _ _ _ _ _ _) ?_; clear hS; intro _ hS; try simp only [List.cons_append, List.nil_append, List.append_nil, List.set_cons_zero, List.set_cons_succ] at hS)
            | ((with_reducible show wpList _ _ _ (Oper.mk _ (Op.load _ _) _ _ _ _ :: _) _ _); refine wpl rfl ?_; first | refine owp_load1 hS 2 rfl rfl rfl (Memo.g0 _ _ _) ?_ | refine owp_load1 hS 0 rfl rfl rfl rfl ?_)
            | fail)
          have hb3 : s1.fail 10 = s1 := by simp [PS.fail, Hb0.out]
          replace hS := hS.addNone.addNone
          try simp only [List.cons_append, List.nil_append, List.append_nil, List.set_cons_zero, List.set_cons_succ] at hS
          have hmid := RMid.intro hS hat Memo.Fit.zero' (RowV.nil _ _) (RowV.nil _ _) (HB3.out.trans (by rw [hb3]))
          clear hb3
          -- here: hmid : RMid w b gr gm _ l (readBody k ch s1) _
          clear hS hat
          obtain ⟨tv, wv, x, y, at5, hS, hat, hfit, hrx, hry⟩ := hmid
          generalize hms : readBody _ ch s1 = ms at *
          obtain ⟨m, s2⟩ := ms
          have HB := Lib.hid hms
          clear hms
          obtain ⟨a1, c1, rfl⟩ := hrx.isSl
          obtain ⟨a2, c2, rfl⟩ := hry.isSl
          have Hrx := Lib.hid hrx
          have Hry := Lib.hid hry
          have Hfit2 := Lib.hid hfit
          have Hone := Lib.hid (Memo.one m (.slice a1 m.trail.length c1) (.slice a2 m.sig.way.length c2) rfl rfl)
          clear hrx hry hfit
          simp only [] at hS hat
          -- here: hS at [rf s2.bad, gr, gm (m.cells ..), x, y], HB : readBody k ch s1 = (m, s2)
          by_cases hb0 : s2.bad = 0
          · have hb1 : (s2.bad == 0) = true := by simpa using hb0
            have Hb0 := Lib.hid hb0
            clear hb0
            cases hr2 : m.right with
            | true =>
              have Hr := Lib.hid hr2
              have Hread2 := Lib.hid (show readMemo l = (if s2.fin.bad ≠ 0 then (Memo.zero, s2.fin.bad) else (m, 0)) by rw [Hread.out]; simp [Hr.out])
              clear hr2
              go_wp2_with (first | ((with_reducible show wpList _ _ _ (Oper.mk _ (Op.load _ _) _ _ _ _ :: _) _ _); refine wpl rfl ?_; refine (owp_load1 hS 0 rfl rfl rfl rfl ?_)) | ((with_reducible show wpList _ _ _ (Oper.mk _ (Op.load _ _) _ _ _ _ :: _) _ _); refine wpl rfl ?_; refine (owp_loadW hS 2 rfl rfl rfl (Hfit2.out.len _ _) ?_)))
              refine (rright_ok m _ a1 c1 a2 c2 ⟨rfl, Hfit2.out⟩ _).mono ?_
              rintro e w2 ⟨rfl, hc⟩
              rw [Hr.out]
              replace hS := hS.call0 hc
              try simp only [List.cons_append, List.nil_append, List.append_nil, List.set_cons_zero, List.set_cons_succ] at hS
              clear hc
              go_wp2_with (first | ((with_reducible show wpList _ _ _ (Oper.mk _ (Op.store _ _ _) _ _ _ _ :: _) _ _); refine wpl rfl ?_; refine (owp_store1 hS 0 rfl rfl rfl rfl rfl (by simp) rfl ?_); clear hS; intro _ hS; try simp [Act.eval] at hS))
              generalize s2 = s3 at *
              -- here: hS at [rf s3.bad, gr, gm m, x, y], hat for s3, Hread2 : readMemo l = (if s3.fin.bad ≠ 0 ..)
              go_wp2_with fail
              refine (rend_ok b _ l _ s3 _ (hS.get 0 rfl) (URd.own hr hl hS) hat).mono ?_
              rintro e w3 ⟨rfl, at5, hc, hat5⟩
              replace hS := hS.call1 0 rfl hc
              try simp only [List.cons_append, List.nil_append, List.append_nil, List.set_cons_zero, List.set_cons_succ] at hS
              clear hc hat5
              generalize s3.fin.bad = eb at *
              by_cases he : eb = 0
              · subst he
                have Hread3 := Lib.hid (show readMemo l = (m, 0) by rw [Hread2.out]; simp)
                clear Hread2 Hread
                go_wp2_with (first | ((with_reducible show wpList _ _ _ (Oper.mk _ (Op.load _ _) _ _ _ _ :: _) _ _); refine wpl rfl ?_; refine (owp_loadW hS 2 rfl rfl rfl (Hfit2.out.len _ _) ?_)) | ((with_reducible show wpList _ _ _ (Oper.mk _ (Op.store _ _ _) _ _ _ _ :: _) _ _); refine wpl rfl ?_; refine (owp_storeW hS 1 rfl rfl rfl rfl (Hfit2.out.len _ _) (Memo.Fit.zero.len _ _) (Hone.out) ?_); clear hS; intro _ hS; try simp only [List.cons_append, List.nil_append, List.append_nil, List.set_cons_zero, List.set_cons_succ] at hS))
                (try simp only [Exit.inBlock, Exit.then]); refine bodyPost_ret (res_cell2 rfl rfl hS 1 rfl (Hfit2.out.len _ _)) rfl ?_
                refine ⟨.slice a1 m.trail.length c1, .slice a2 m.sig.way.length c2, x, y, ?_, hS.pick [3, 4] rfl (by decide), ?_, ?_⟩
                · rw [Hread3.out]; rfl
                · rw [Hread3.out]; exact Hrx.out
                · rw [Hread3.out]; exact Hry.out
              · have Hread3 := Lib.hid (show readMemo l = (Memo.zero, eb) by rw [Hread2.out, if_pos he])
                have he1 : (eb != 0) = true := by simpa using he
                clear Hread2 Hread he
                go_wp2_with (first | ((with_reducible show wpList _ _ _ (Oper.mk _ (Op.build _ _) _ _ _ _ :: _) _ _); refine wpl rfl ?_; refine owp_build rfl [] rfl (build_memoR0 _) ?_) | ((with_reducible show wpList _ _ _ (Oper.mk _ (Op.store _ _ _) _ _ _ _ :: _) _ _); refine wpl rfl ?_; refine (owp_storeW hS 1 rfl rfl rfl rfl (Memo.Fit.zero.len _ _) (Memo.Fit.zero.len _ _) (Memo.one _ _ _ rfl rfl) ?_); clear hS; intro _ hS; try simp only [List.cons_append, List.nil_append, List.append_nil, List.set_cons_zero, List.set_cons_succ] at hS))
                (try simp only [Exit.inBlock, Exit.then]); refine bodyPost_ret (res_cell2 rfl rfl hS 1 rfl (Memo.Fit.zero.len _ _)) rfl ?_
                refine ⟨.slice none 0 0, .slice none 0 0, none, none, ?_, (hS.pick [] rfl (by decide)).addNone.addNone, ?_, ?_⟩
                · rw [Hread3.out]; rfl
                · rw [Hread3.out]; exact RowV.nil _ _
                · rw [Hread3.out]; exact RowV.nil _ _
            | false =>
              have Hr := Lib.hid hr2
              have h3 : s2.fail 10 = ⟨[], 10⟩ := by simp [PS.fail, Hb0.out]
              have Hread2 := Lib.hid (show readMemo l = (if (PS.mk [] 10).fin.bad ≠ 0 then (Memo.zero, (PS.mk [] 10).fin.bad) else (m, 0)) by rw [Hread.out]; simp [Hr.out, Hb0.out, h3])
              clear hr2 h3
              go_wp2_with (first | ((with_reducible show wpList _ _ _ (Oper.mk _ (Op.load _ _) _ _ _ _ :: _) _ _); refine wpl rfl ?_; refine (owp_load1 hS 0 rfl rfl rfl rfl ?_)) | ((with_reducible show wpList _ _ _ (Oper.mk _ (Op.load _ _) _ _ _ _ :: _) _ _); refine wpl rfl ?_; refine (owp_loadW hS 2 rfl rfl rfl (Hfit2.out.len _ _) ?_)))
              refine (rright_ok m _ a1 c1 a2 c2 ⟨rfl, Hfit2.out⟩ _).mono ?_
              rintro e w2 ⟨rfl, hc⟩
              rw [Hr.out]
              replace hS := hS.call0 hc
              try simp only [List.cons_append, List.nil_append, List.append_nil, List.set_cons_zero, List.set_cons_succ] at hS
              clear hc
              go_wp2_with (first | ((with_reducible show wpList _ _ _ (Oper.mk _ (Op.store _ _ _) _ _ _ _ :: _) _ _); refine wpl rfl ?_; refine (owp_store1 hS 0 rfl rfl rfl rfl rfl (by simp) rfl ?_); clear hS; intro _ hS; try simp [Act.eval] at hS))
              have hat3 : RAt l at5 (PS.mk [] 10) := ⟨hat.1, fun h => absurd h (by decide)⟩
              clear hat
              have hat := hat3
              clear hat3
              obtain ⟨s3, hs3⟩ : ∃ s3, s3 = PS.mk [] 10 := ⟨_, rfl⟩
              rw [← hs3] at Hread2 hat
              have hb3 : (10 : Int) = s3.bad := by rw [hs3]
              rw [hb3] at hS
              clear hs3 hb3
              -- here: hS at [rf s3.bad, gr, gm m, x, y], hat for s3, Hread2 : readMemo l = (if s3.fin.bad ≠ 0 ..)
              go_wp2_with fail
              refine (rend_ok b _ l _ s3 _ (hS.get 0 rfl) (URd.own hr hl hS) hat).mono ?_
              rintro e w3 ⟨rfl, at5, hc, hat5⟩
              replace hS := hS.call1 0 rfl hc
              try simp only [List.cons_append, List.nil_append, List.append_nil, List.set_cons_zero, List.set_cons_succ] at hS
              clear hc hat5
              generalize s3.fin.bad = eb at *
              by_cases he : eb = 0
              · subst he
                have Hread3 := Lib.hid (show readMemo l = (m, 0) by rw [Hread2.out]; simp)
                clear Hread2 Hread
                go_wp2_with (first | ((with_reducible show wpList _ _ _ (Oper.mk _ (Op.load _ _) _ _ _ _ :: _) _ _); refine wpl rfl ?_; refine (owp_loadW hS 2 rfl rfl rfl (Hfit2.out.len _ _) ?_)) | ((with_reducible show wpList _ _ _ (Oper.mk _ (Op.store _ _ _) _ _ _ _ :: _) _ _); refine wpl rfl ?_; refine (owp_storeW hS 1 rfl rfl rfl rfl (Hfit2.out.len _ _) (Memo.Fit.zero.len _ _) (Hone.out) ?_); clear hS; intro _ hS; try simp only [List.cons_append, List.nil_append, List.append_nil, List.set_cons_zero, List.set_cons_succ] at hS))
                (try simp only [Exit.inBlock, Exit.then]); refine bodyPost_ret (res_cell2 rfl rfl hS 1 rfl (Hfit2.out.len _ _)) rfl ?_
                refine ⟨.slice a1 m.trail.length c1, .slice a2 m.sig.way.length c2, x, y, ?_, hS.pick [3, 4] rfl (by decide), ?_, ?_⟩
                · rw [Hread3.out]; rfl
                · rw [Hread3.out]; exact Hrx.out
                · rw [Hread3.out]; exact Hry.out
              · have Hread3 := Lib.hid (show readMemo l = (Memo.zero, eb) by rw [Hread2.out, if_pos he])
                have he1 : (eb != 0) = true := by simpa using he
                clear Hread2 Hread he
                go_wp2_with (first | ((with_reducible show wpList _ _ _ (Oper.mk _ (Op.build _ _) _ _ _ _ :: _) _ _); refine wpl rfl ?_; refine owp_build rfl [] rfl (build_memoR0 _) ?_) | ((with_reducible show wpList _ _ _ (Oper.mk _ (Op.store _ _ _) _ _ _ _ :: _) _ _); refine wpl rfl ?_; refine (owp_storeW hS 1 rfl rfl rfl rfl (Memo.Fit.zero.len _ _) (Memo.Fit.zero.len _ _) (Memo.one _ _ _ rfl rfl) ?_); clear hS; intro _ hS; try simp only [List.cons_append, List.nil_append, List.append_nil, List.set_cons_zero, List.set_cons_succ] at hS))
                (try simp only [Exit.inBlock, Exit.then]); refine bodyPost_ret (res_cell2 rfl rfl hS 1 rfl (Memo.Fit.zero.len _ _)) rfl ?_
                refine ⟨.slice none 0 0, .slice none 0 0, none, none, ?_, (hS.pick [] rfl (by decide)).addNone.addNone, ?_, ?_⟩
                · rw [Hread3.out]; rfl
                · rw [Hread3.out]; exact RowV.nil _ _
                · rw [Hread3.out]; exact RowV.nil _ _
          · have hb1 : (s2.bad == 0) = false := by simpa using hb0
            have Hread2 := Lib.hid (show readMemo l = (if s2.fin.bad ≠ 0 then (Memo.zero, s2.fin.bad) else (m, 0)) by rw [Hread.out]; simp [hb0])
            clear hb0
            go_wp2_with (first | ((with_reducible show wpList _ _ _ (Oper.mk _ (Op.load _ _) _ _ _ _ :: _) _ _); refine wpl rfl ?_; refine (owp_load1 hS 0 rfl rfl rfl rfl ?_)))
            generalize s2 = s3 at *
            -- here: hS at [rf s3.bad, gr, gm m, x, y], hat for s3, Hread2 : readMemo l = (if s3.fin.bad ≠ 0 ..)
            go_wp2_with fail
            refine (rend_ok b _ l _ s3 _ (hS.get 0 rfl) (URd.own hr hl hS) hat).mono ?_
            rintro e w3 ⟨rfl, at5, hc, hat5⟩
            replace hS := hS.call1 0 rfl hc
            try simp only [List.cons_append, List.nil_append, List.append_nil, List.set_cons_zero, List.set_cons_succ] at hS
            clear hc hat5
            generalize s3.fin.bad = eb at *
            by_cases he : eb = 0
            · subst he
              have Hread3 := Lib.hid (show readMemo l = (m, 0) by rw [Hread2.out]; simp)
              clear Hread2 Hread
              go_wp2_with (first | ((with_reducible show wpList _ _ _ (Oper.mk _ (Op.load _ _) _ _ _ _ :: _) _ _); refine wpl rfl ?_; refine (owp_loadW hS 2 rfl rfl rfl (Hfit2.out.len _ _) ?_)) | ((with_reducible show wpList _ _ _ (Oper.mk _ (Op.store _ _ _) _ _ _ _ :: _) _ _); refine wpl rfl ?_; refine (owp_storeW hS 1 rfl rfl rfl rfl (Hfit2.out.len _ _) (Memo.Fit.zero.len _ _) (Hone.out) ?_); clear hS; intro _ hS; try simp only [List.cons_append, List.nil_append, List.append_nil, List.set_cons_zero, List.set_cons_succ] at hS))
              (try simp only [Exit.inBlock, Exit.then]); refine bodyPost_ret (res_cell2 rfl rfl hS 1 rfl (Hfit2.out.len _ _)) rfl ?_
              refine ⟨.slice a1 m.trail.length c1, .slice a2 m.sig.way.length c2, x, y, ?_, hS.pick [3, 4] rfl (by decide), ?_, ?_⟩
              · rw [Hread3.out]; rfl
              · rw [Hread3.out]; exact Hrx.out
              · rw [Hread3.out]; exact Hry.out
            · have Hread3 := Lib.hid (show readMemo l = (Memo.zero, eb) by rw [Hread2.out, if_pos he])
              have he1 : (eb != 0) = true := by simpa using he
              clear Hread2 Hread he
              go_wp2_with (first | ((with_reducible show wpList _ _ _ (Oper.mk _ (Op.build _ _) _ _ _ _ :: _) _ _); refine wpl rfl ?_; refine owp_build rfl [] rfl (build_memoR0 _) ?_) | ((with_reducible show wpList _ _ _ (Oper.mk _ (Op.store _ _ _) _ _ _ _ :: _) _ _); refine wpl rfl ?_; refine (owp_storeW hS 1 rfl rfl rfl rfl (Memo.Fit.zero.len _ _) (Memo.Fit.zero.len _ _) (Memo.one _ _ _ rfl rfl) ?_); clear hS; intro _ hS; try simp only [List.cons_append, List.nil_append, List.append_nil, List.set_cons_zero, List.set_cons_succ] at hS))
              (try simp only [Exit.inBlock, Exit.then]); refine bodyPost_ret (res_cell2 rfl rfl hS 1 rfl (Memo.Fit.zero.len _ _)) rfl ?_
              refine ⟨.slice none 0 0, .slice none 0 0, none, none, ?_, (hS.pick [] rfl (by decide)).addNone.addNone, ?_, ?_⟩
              · rw [Hread3.out]; rfl
              · rw [Hread3.out]; exact RowV.nil _ _
              · rw [Hread3.out]; exact RowV.nil _ _

end Go.Proofs.Ytjgphbdffhmmgaa
