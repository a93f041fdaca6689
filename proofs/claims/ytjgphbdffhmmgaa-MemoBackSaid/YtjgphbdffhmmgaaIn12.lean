/-
  A memo, as it is taken off bytes by the program.
-/
import Derived.Test.YtjgphbdffhmmgaaIn11
import Derived.Deep.CutBlock
namespace Go.Proofs.Ytjgphbdffhmmgaa
set_option linter.unusedSimpArgs false
set_option linter.unusedVariables false
open Go Go.RowKit
set_option maxRecDepth 100000
set_option maxHeartbeats 2000000

theorem Memo.one (m : Memo) (tv wv : Value) (ht : tv.oneCell' = true) (hw : wv.oneCell' = true) : ∀ x, x ∈ m.cells tv wv → x.oneCell' = true := by
  intro x hx
  simp only [Memo.cells, List.mem_append, List.mem_cons, List.not_mem_nil, or_false] at hx
  rcases hx with (((rfl | rfl | rfl) | h) | rfl) | h
  · rfl
  · rfl
  · rfl
  · exact Oop.one _ x h
  · exact ht
  · exact Sig.one _ _ hw x h
section
variable (k : Int) (c r : Nat) (o : Oop) (t : List Hop) (s : Sig) (tv wv : Value)
theorem Memo.set_round (r' : Nat) : (Memo.cells ⟨k, c, r, o, t, s⟩ tv wv).set 2 (.int .u64 r') = Memo.cells ⟨k, c, r', o, t, s⟩ tv wv := rfl
theorem Memo.set_op (h : o.cells.length = 39) (o' : Oop) : (Memo.cells ⟨k, c, r, o, t, s⟩ tv wv).take 3 ++ o'.cells ++ (Memo.cells ⟨k, c, r, o, t, s⟩ tv wv).drop (3 + 39) = Memo.cells ⟨k, c, r, o', t, s⟩ tv wv := by
  have e : Memo.cells ⟨k, c, r, o, t, s⟩ tv wv = ([.int .i64 k, .int .u32 c, .int .u64 r] ++ o.cells) ++ (tv :: s.cells wv) := by simp [Memo.cells]
  have e1 : (Memo.cells ⟨k, c, r, o, t, s⟩ tv wv).drop (3 + 39) = tv :: s.cells wv := by rw [e, List.drop_left' (by simp [h])]
  rw [e1]
  simp [Memo.cells]
theorem Memo.set_trail (h : o.cells.length = 39) (tv' : Value) (t' : List Hop) : (Memo.cells ⟨k, c, r, o, t, s⟩ tv wv).set 42 tv' = Memo.cells ⟨k, c, r, o, t', s⟩ tv' wv := by
  simp [Memo.cells, List.set_append, h]
theorem Memo.set_sig (h : o.cells.length = 39) (hs : s.l.cells.length = 1024) (wv' : Value) (s' : Sig) :
    (Memo.cells ⟨k, c, r, o, t, s⟩ tv wv).take 43 ++ s'.cells wv' ++ (Memo.cells ⟨k, c, r, o, t, s⟩ tv wv).drop (43 + 1026) = Memo.cells ⟨k, c, r, o, t, s'⟩ tv wv' := by
  have e : Memo.cells ⟨k, c, r, o, t, s⟩ tv wv = ([.int .i64 k, .int .u32 c, .int .u64 r] ++ o.cells ++ [tv]) ++ s.cells wv := by simp [Memo.cells]
  have e1 : (Memo.cells ⟨k, c, r, o, t, s⟩ tv wv).drop (43 + 1026) = [] := List.drop_eq_nil_of_le (by simp [e, h, Sig.cells, hs])
  have e2 : (Memo.cells ⟨k, c, r, o, t, s⟩ tv wv).take 43 = [.int .i64 k, .int .u32 c, .int .u64 r] ++ o.cells ++ [tv] := by rw [e, List.take_left' (by simp [h])]
  rw [e1, e2]
  simp [Memo.cells]
theorem Memo.lenmk (h : o.cells.length = 39) (hs : s.l.cells.length = 1024) : (Memo.cells ⟨k, c, r, o, t, s⟩ tv wv).length = 1069 := by
  simp [Memo.cells, Sig.cells, h, hs]
theorem Memo.lt (h : o.cells.length = 39) (hs : s.l.cells.length = 1024) {i : Nat} (hi : i < 1069) : i < (Memo.cells ⟨k, c, r, o, t, s⟩ tv wv).length := by
  rw [Memo.lenmk k c r o t s tv wv h hs]; exact hi
theorem Memo.le (h : o.cells.length = 39) (hs : s.l.cells.length = 1024) {i : Nat} (hi : i ≤ 1069) : i ≤ (Memo.cells ⟨k, c, r, o, t, s⟩ tv wv).length := by
  rw [Memo.lenmk k c r o t s tv wv h hs]; exact hi
end
theorem ozero_len : Oop.zero.cells.length = 39 := Oop.len Oop.zero (zb_length 32)
theorem takeOp_hash (s : PS) : (takeOp s).1.cond.hash.length = 32 := by
  simp only [takeOp]
  split
  · exact zb_length 32
  · exact takeCond_hash _
theorem takeSig_lens (s : PS) : (takeSig s).1.l.shown.length = 512 ∧ (takeSig s).1.l.other.length = 512 := by
  simp only [takeSig]
  split
  · exact ⟨zb_length 512, zb_length 512⟩
  · generalize ((s.num 4).2.many 8).2 = s'
    have h1 := shownOf_len 32 s'
    have h2 := otherOf_len 32 s'
    have e : (takeLamp s').1 = ⟨shownOf 32 s', otherOf 32 s'⟩ := by simp only [takeLamp, shownOf, otherOf]
    rw [e]
    exact ⟨h1, h2⟩
theorem readBody0 (ch : Nat) (s : PS) : readBody 0 ch s = (⟨(0 : Nat), ch, 0, Oop.zero, [], Sig.zero⟩, s) := rfl
theorem readBody1 (ch : Nat) (s : PS) : readBody 1 ch s = (⟨(1 : Nat), ch, (s.num 8).1, (takeOp (s.num 8).2).1, (takeTrail (takeOp (s.num 8).2).2).1, (takeSig (takeTrail (takeOp (s.num 8).2).2).2).1⟩, (takeSig (takeTrail (takeOp (s.num 8).2).2).2).2) := rfl
theorem readBody2 (ch : Nat) (s : PS) : readBody 2 ch s = (⟨(2 : Nat), ch, (s.num 8).1, Oop.zero, [], (takeSig (s.num 8).2).1⟩, (takeSig (s.num 8).2).2) := rfl
theorem readBody3 (k ch : Nat) (s : PS) (h0 : k ≠ 0) (h1 : k ≠ 1) (h2 : k ≠ 2) : readBody k ch s = (⟨k, ch, 0, Oop.zero, [], Sig.zero⟩, s.fail 10) := by
  simp [readBody, h0, h1, h2]
theorem build_memo (k : Int) (c : Nat) (w : World) : (Instr.build 43 #[(0, .int .i64 k), (1, .int .u32 c)]).run Try.prog w = .ok (.agg (Memo.cells ⟨k, c, 0, Oop.zero, [], Sig.zero⟩ (.slice none 0 0) (.slice none 0 0)).toArray) w := by kernel_rfl
theorem build_memo0 (w : World) : (Instr.build 43 #[]).run Try.prog w = .ok (.agg (Memo.zero.cells (.slice none 0 0) (.slice none 0 0)).toArray) w := by kernel_rfl
theorem Memo.Fit.zero' {k : Int} {c : Nat} : (Memo.mk k c 0 Oop.zero [] Sig.zero).Fit := ⟨zb_length 32, zb_length 512, zb_length 512⟩
/-- The reader's own copy of the bytes. -/
abbrev backBlk (g : Nat) (l : List UInt8) (sp : List Value) : Ent := some (g, bs l ++ sp, 5)
def OfPost (l : List UInt8) (w : World) (e : Ending) (w' : World) : Prop :=
  ∃ b g cap sp, e = .returned (.pointer (some ⟨b, 0, none⟩)) ∧ St w [] w' [inBlk b (.slice (some ⟨g, 0, none⟩) l.length cap) 0, backBlk g l sp] ∧ l.length ≤ cap ∧ cap ≤ maxLen
theorem back_inv {w0 w : World} {A : List Nat} {L : List Ent} {b g cap : Nat} {l : List UInt8} {sp : List Value} {v : Value} {bad : Int} (hS : St w0 A w (inBlk b v bad :: backBlk g l sp :: L)) (hc : l.length ≤ cap) (hm : cap ≤ maxLen) :
    InV w b (.slice (some ⟨g, 0, none⟩) l.length cap) l := by
  refine .inr ⟨g, 0, cap, _, _, _, rfl, hc, hm, ?_, hS.get 1 rfl _ _ _ rfl, by simp [bs_length]⟩
  rintro rfl
  have := nodup_other hS.nodup (i := 0) (j := 1) rfl rfl
  omega
theorem of_ok2 (u : Value) (l : List UInt8) (w : World) (hu : RowR w 1 u l.length (bs l)) (hl : l.length ≤ 1000000) :
    Calls Try.prog 8 #[u] w (OfPost l w) := by
  have hS := St.nil w
  go_enter Try.func8, Try.ntmps8
  have hl63 : 0 + l.length ≤ maxLen := by unfold maxLen; omega
  have hlb : (0 + l.length) * 1 ≤ 140737488355328 := by omega
  go_wp2_with (first | ((with_reducible show wpList _ _ _ (Oper.mk _ (Op.buildSlice _ _ _) _ _ _ _ :: _) _ _); refine wpl rfl ?_; refine (owp_bslice0 hS rfl ?_); clear hS; intro g0 w1 hS; try simp only [List.cons_append, List.nil_append, List.append_nil, List.set_cons_zero, List.set_cons_succ] at hS) | ((with_reducible show wpList _ _ _ (Oper.mk _ (Op.call (Call.mk (Callee.builtin Builtin.append) _ _)) _ _ _ _ :: _) _ _); refine wpl rfl ?_; refine (owp_append hS 0 rfl rfl rfl (RowV.lit 5 1 _ 0 [] rfl (Nat.zero_le _)) rfl (hu.st0 hS) (bs_one _) hl63 hlb ?_); clear hS; intro v' x' w2 hv' hS hnil; obtain ⟨g1, cap, sp, rfl, rfl, hlx, hcap, hcm⟩ := hv'.whole (hnil (.inr (by simp [Act.eval]))); clear hnil hv'; try simp only [List.cons_append, List.nil_append, List.append_nil, List.set_cons_zero, List.set_cons_succ] at hS) | ((with_reducible show wpList _ _ _ (Oper.mk _ (Op.box _ _) _ _ _ _ :: _) _ _); refine wpl rfl ?_; refine (owp_box hS rfl (vs := [_, _]) rfl ?_); clear hS; intro b w3 hS; try simp only [List.cons_append, List.nil_append, List.append_nil, List.set_cons_zero, List.set_cons_succ] at hS))
  go_ret
  refine ⟨b, g1, cap, sp, rfl, ?_, by simpa using hcap, hcm⟩
  have h := hS.pick [1, 0] rfl (by decide)
  simpa using h

theorem InV.le {w : World} {b : Nat} {v : Value} {l : List UInt8} (h : InV w b v l) : l.length ≤ maxLen := by
  rcases h with ⟨_, rfl⟩ | ⟨g, off, cap, cs, T, fr, hv, hc, hm, _⟩
  · exact Nat.zero_le _
  · omega

/-- A memo in a block, with the blocks of its trail and its way. -/
def ReadPost (l : List UInt8) (w : World) (e : Ending) (w' : World) : Prop :=
  ∃ tv wv x y, e = .returned (.tuple #[.agg ((readMemo l).1.cells tv wv).toArray, .int .i64 (readMemo l).2]) ∧ St w [] w' [x, y] ∧
    RowV 96 3 tv (readMemo l).1.trail.length (hopCells (readMemo l).1.trail) x ∧ RowV 111 32 wv (readMemo l).1.sig.way.length (wayCells (readMemo l).1.sig.way) y

def Mid (w : World) (b g gr gm : Nat) (v0 : Value) (l : List UInt8) (sp : List Value) (ms : Memo × PS) (w' : World) : Prop :=
  ∃ tv wv x y v', St w [] w' [inBlk b v' ms.2.bad, backBlk g l sp, some (gr, Memo.zero.cells (.slice none 0 0) (.slice none 0 0), 43), some (gm, ms.1.cells tv wv, 43), x, y] ∧
    SubV v0 l v' ms.2.rest ∧ ms.1.Fit ∧ RowV 96 3 tv ms.1.trail.length (hopCells ms.1.trail) x ∧ RowV 111 32 wv ms.1.sig.way.length (wayCells ms.1.sig.way) y

theorem readMemo_ok (u : Value) (l : List UInt8) (w : World) (hu : RowR w 1 u l.length (bs l)) (hl : l.length ≤ 1000000) :
    Calls Try.prog 6 #[u] w (ReadPost l w) := by
  have hS := St.nil w
  obtain ⟨s0, hs0⟩ : ∃ s0, s0 = PS.mk l 0 := ⟨_, rfl⟩
  have h00 : s0.bad = 0 := by rw [hs0]
  have h01 : s0.rest = l := by rw [hs0]
  have H0 := Lib.hid (And.intro hs0 (And.intro h00 h01))
  have Hfit := Lib.hid Memo.Fit.zero
  clear hs0 h00 h01
  go_enter Try.func6, Try.ntmps6
  go_wp2_with (first | ((with_reducible show wpList _ _ _ (Oper.mk (some 2) (Op.alloc _) _ _ _ _ :: _) _ _); refine wpl rfl ?_; refine (owp_allocAt hS 2 rfl rfl ?_); clear hS; intro gr _ hS; simp only [List.cons_append, List.nil_append] at hS))
  refine (of_ok2 u l _ (hu.st0 hS) hl).mono ?_
  rintro e w1 ⟨b, g, cap, sp, rfl, hc, hcap, hcm⟩
  replace hS : St w [] w1 [inBlk b (.slice (some ⟨g, 0, none⟩) l.length cap) 0, backBlk g l sp, some (gr, Memo.zero.cells (.slice none 0 0) (.slice none 0 0), 43)] := (hS.call0 hc).pick [1, 2, 0] rfl (by decide)
  clear hc
  rw [← H0.out.2.1] at hS
  have Hv := Lib.hid (fun (A : List Nat) (w' : World) (v : Value) (bad : Int) (L : List Ent) (h : St w A w' (inBlk b v bad :: backBlk g l sp :: L)) => back_inv h hcap hcm)
  have hsub : SubV (.slice (some ⟨g, 0, none⟩) l.length cap) l (.slice (some ⟨g, 0, none⟩) l.length cap) s0.rest := by rw [H0.out.2.2]; exact SubV.refl _ _
  go_wp2_with fail
  refine (one_ok b _ _ _ (hS.get 0 rfl) (hsub _ _ (Hv.out _ _ _ _ _ hS))).mono ?_; rintro e w1 ⟨rfl, v2, hc, hsub2⟩; replace hS := hS.call1 0 rfl hc; try simp only [List.cons_append, List.nil_append, List.append_nil, List.set_cons_zero, List.set_cons_succ] at hS; replace hsub := hsub.trans hsub2; clear hc hsub2
  have h1 := num1_lt s0
  have Hb1 := Lib.hid (show (Memo.mk (s0.num 1).1 ((s0.num 1).2.num 4).1 0 Oop.zero [] Sig.zero).Fit from Memo.Fit.zero')
  go_wp2_with fail
  refine (four_ok b _ _ _ (hS.get 0 rfl) (hsub _ _ (Hv.out _ _ _ _ _ hS))).mono ?_; rintro e w1 ⟨rfl, v2, hc, hsub2⟩; replace hS := hS.call1 0 rfl hc; try simp only [List.cons_append, List.nil_append, List.append_nil, List.set_cons_zero, List.set_cons_succ] at hS; replace hsub := hsub.trans hsub2; clear hc hsub2
  go_upto_block 0 with (first
    | ((with_reducible show wpList _ _ _ (Oper.mk _ (Op.load _ _) _ _ _ _ :: _) _ _); refine wpl rfl ?_; refine owp_load1 hS 3 rfl rfl rfl (Memo.g0 _ _ _) ?_)
    | ((with_reducible show wpList _ _ _ (Oper.mk _ (Op.build _ _) _ _ _ _ :: _) _ _); refine wpl rfl ?_; refine owp_build rfl [(0, .int .i64 _), (1, .int .u32 _)] rfl (build_memo _ _ _) ?_)
    | ((with_reducible show wpList _ _ _ (Oper.mk (some 5) (Op.alloc _) _ _ _ _ :: _) _ _); refine wpl rfl ?_; refine (owp_allocAt hS 5 rfl rfl ?_); clear hS; intro gm _ hS; simp only [List.cons_append, List.nil_append] at hS)
    | ((with_reducible show wpList _ _ _ (Oper.mk _ (Op.store _ _ _) _ _ _ _ :: _) _ _); refine wpl rfl ?_; refine (owp_storeW hS 3 rfl rfl rfl rfl (Hb1.out.len _ _) (Hfit.out.len _ _) (Memo.one _ _ _ rfl rfl) ?_); clear hS; intro _ hS; try simp only [List.cons_append, List.nil_append, List.append_nil, List.set_cons_zero, List.set_cons_succ] at hS))
  have Hread := Lib.hid (show readMemo l = (let m := readBody (s0.num 1).1 ((s0.num 1).2.num 4).1 ((s0.num 1).2.num 4).2; let s := if m.2.bad = 0 ∧ m.1.right = false then m.2.fail 10 else m.2; if s.fin.bad ≠ 0 then (Memo.zero, s.fin.bad) else (m.1, 0)) by rw [H0.out.1]; rfl)
  generalize (s0.num 1).1 = k at *
  generalize ((s0.num 1).2.num 4).1 = ch at *
  generalize ((s0.num 1).2.num 4).2 = s1 at *
  simp only [Act.put, List.setIfInBounds_toArray, List.set_cons_succ, List.set_cons_zero]
  go_cut [] (fun wr => Mid w b g gr gm (.slice (some ⟨g, 0, none⟩) l.length cap) l sp (readBody k ch s1) wr)
  case first =>
    by_cases hk0 : k = 0
    · subst hk0
      go_wp2_with fail
      go_meet
      rw [readBody0]
      exact ⟨_, _, none, none, v2, hS.addNone.addNone, hsub, Memo.Fit.zero', RowV.nil _ _, RowV.nil _ _⟩
    · by_cases hk1 : k = 1
      · subst hk1
        go_wp2_with fail
        refine (eight_ok b _ _ _ (hS.get 0 rfl) (hsub _ _ (Hv.out _ _ _ _ _ hS))).mono ?_; rintro e w1 ⟨rfl, v2, hc, hsub2⟩; replace hS := hS.call1 0 rfl hc; try simp only [List.cons_append, List.nil_append, List.append_nil, List.set_cons_zero, List.set_cons_succ] at hS; replace hsub := hsub.trans hsub2; clear hc hsub2
        go_wp2_with (first | ((with_reducible show wpList _ _ _ (Oper.mk _ (Op.store _ _ _) _ _ _ _ :: _) _ _); refine wpl rfl ?_; refine owp_store1 hS 3 rfl rfl rfl rfl rfl (Memo.lt _ _ _ _ _ _ _ _ ozero_len lzero_len (by omega)) (Memo.set_round _ _ _ _ _ _ _ _ _) ?_; clear hS; intro _ hS; try simp only [List.cons_append, List.nil_append, List.append_nil, List.set_cons_zero, List.set_cons_succ] at hS))
        refine (takeOp_ok b _ _ _ (hS.get 0 rfl) (hsub _ _ (Hv.out _ _ _ _ _ hS))).mono ?_; rintro e w1 ⟨rfl, v2, hc, hsub2⟩; replace hS := hS.call1 0 rfl hc; try simp only [List.cons_append, List.nil_append, List.append_nil, List.set_cons_zero, List.set_cons_succ] at hS; replace hsub := hsub.trans hsub2; clear hc hsub2
        have Hh := Lib.hid (takeOp_hash (s1.num 8).2)
        go_wp2_with (first | ((with_reducible show wpList _ _ _ (Oper.mk _ (Op.store _ _ _) _ _ _ _ :: _) _ _); refine wpl rfl ?_; refine owp_store hS 3 rfl rfl rfl rfl (Oop.len _ Hh.out) (Memo.le _ _ _ _ _ _ _ _ ozero_len lzero_len (by omega)) (Oop.one _) (Memo.set_op _ _ _ _ _ _ _ _ ozero_len _) ?_; clear hS; intro _ hS; try simp only [List.cons_append, List.nil_append, List.append_nil, List.set_cons_zero, List.set_cons_succ] at hS))
        refine (takeTrail_ok b _ _ _ (hS.get 0 rfl) (hsub _ _ (Hv.out _ _ _ _ _ hS))).mono ?_
        rintro e w2 ⟨r, v3, x, rfl, hc, hsub2, hrow⟩
        replace hS := hS.call1 0 rfl hc
        try simp only [List.cons_append, List.nil_append, List.append_nil, List.set_cons_zero, List.set_cons_succ] at hS
        replace hsub := hsub.trans hsub2
        clear hc hsub2
        obtain ⟨a0, c0, rfl⟩ := hrow.isSl
        have Hrow := Lib.hid hrow
        clear hrow
        go_wp2_with (first | ((with_reducible show wpList _ _ _ (Oper.mk _ (Op.store _ _ _) _ _ _ _ :: _) _ _); refine wpl rfl ?_; refine owp_store1 hS 3 rfl rfl rfl rfl rfl (Memo.lt _ _ _ _ _ _ _ _ (Oop.len _ Hh.out) lzero_len (by omega)) (Memo.set_trail _ _ _ _ _ _ _ _ (Oop.len _ Hh.out) _ (takeTrail (takeOp (s1.num 8).2).2).1) ?_; clear hS; intro _ hS; try simp only [List.cons_append, List.nil_append, List.append_nil, List.set_cons_zero, List.set_cons_succ] at hS))
        refine (takeSig_ok b _ _ _ (hS.get 0 rfl) (hsub _ _ (Hv.out _ _ _ _ _ hS))).mono ?_
        rintro e w3 ⟨wv, v4, y, rfl, hc, hsub2, hrow⟩
        replace hS := hS.call1 0 rfl hc
        try simp only [List.cons_append, List.nil_append, List.append_nil, List.set_cons_zero, List.set_cons_succ] at hS
        replace hsub := hsub.trans hsub2
        clear hc hsub2
        obtain ⟨a1, c1, rfl⟩ := hrow.isSl
        have Hrow2 := Lib.hid hrow
        clear hrow
        have Hl := Lib.hid (takeSig_lens (takeTrail (takeOp (s1.num 8).2).2).2)
        go_wp2_with (first | ((with_reducible show wpList _ _ _ (Oper.mk _ (Op.store _ _ _) _ _ _ _ :: _) _ _); refine wpl rfl ?_; refine owp_store hS 3 rfl rfl rfl rfl (Sig.len _ _ (LSig.len _ Hl.out.1 Hl.out.2)) (Memo.le _ _ _ _ _ _ _ _ (Oop.len _ Hh.out) lzero_len (by omega)) (Sig.one _ _ rfl) (Memo.set_sig _ _ _ _ _ _ _ _ (Oop.len _ Hh.out) lzero_len _ _) ?_; clear hS; intro _ hS; try simp only [List.cons_append, List.nil_append, List.append_nil, List.set_cons_zero, List.set_cons_succ] at hS))
        go_meet
        rw [readBody1]
        exact ⟨_, _, x, y, v4, hS, hsub, ⟨Hh.out, Hl.out.1, Hl.out.2⟩, Hrow.out, Hrow2.out⟩
      · by_cases hk2 : k = 2
        · subst hk2
          go_wp2_with fail
          refine (eight_ok b _ _ _ (hS.get 0 rfl) (hsub _ _ (Hv.out _ _ _ _ _ hS))).mono ?_; rintro e w1 ⟨rfl, v2, hc, hsub2⟩; replace hS := hS.call1 0 rfl hc; try simp only [List.cons_append, List.nil_append, List.append_nil, List.set_cons_zero, List.set_cons_succ] at hS; replace hsub := hsub.trans hsub2; clear hc hsub2
          go_wp2_with (first | ((with_reducible show wpList _ _ _ (Oper.mk _ (Op.store _ _ _) _ _ _ _ :: _) _ _); refine wpl rfl ?_; refine owp_store1 hS 3 rfl rfl rfl rfl rfl (Memo.lt _ _ _ _ _ _ _ _ ozero_len lzero_len (by omega)) (Memo.set_round _ _ _ _ _ _ _ _ _) ?_; clear hS; intro _ hS; try simp only [List.cons_append, List.nil_append, List.append_nil, List.set_cons_zero, List.set_cons_succ] at hS))
          refine (takeSig_ok b _ _ _ (hS.get 0 rfl) (hsub _ _ (Hv.out _ _ _ _ _ hS))).mono ?_
          rintro e w3 ⟨wv, v4, y, rfl, hc, hsub2, hrow⟩
          replace hS := hS.call1 0 rfl hc
          try simp only [List.cons_append, List.nil_append, List.append_nil, List.set_cons_zero, List.set_cons_succ] at hS
          replace hsub := hsub.trans hsub2
          clear hc hsub2
          obtain ⟨a1, c1, rfl⟩ := hrow.isSl
          have Hrow2 := Lib.hid hrow
          clear hrow
          have Hl := Lib.hid (takeSig_lens (s1.num 8).2)
          go_wp2_with (first | ((with_reducible show wpList _ _ _ (Oper.mk _ (Op.store _ _ _) _ _ _ _ :: _) _ _); refine wpl rfl ?_; refine owp_store hS 3 rfl rfl rfl rfl (Sig.len _ _ (LSig.len _ Hl.out.1 Hl.out.2)) (Memo.le _ _ _ _ _ _ _ _ ozero_len lzero_len (by omega)) (Sig.one _ _ rfl) (Memo.set_sig _ _ _ _ _ _ _ _ ozero_len lzero_len _ _) ?_; clear hS; intro _ hS; try simp only [List.cons_append, List.nil_append, List.append_nil, List.set_cons_zero, List.set_cons_succ] at hS))
          go_meet
          rw [readBody2]
          exact ⟨_, _, none, y, v4, hS.addNone.pick [0, 1, 2, 3, 5, 4] rfl (by decide), hsub, ⟨zb_length 32, Hl.out.1, Hl.out.2⟩, RowV.nil _ _, Hrow2.out⟩
        · have Hbody := Lib.hid (readBody3 k ch s1 hk0 hk1 hk2)
          have e0 : ((k : Int) == 0) = false := by simp; omega
          have e1 : ((k : Int) == 1) = false := by simp; omega
          have e2 : ((k : Int) == 2) = false := by simp; omega
          clear hk0 hk1 hk2
          go_wp2_with fail
          refine (fail_ok b _ _ 10 _ (hS.get 0 rfl)).mono ?_; rintro e w1 ⟨rfl, v2, hc, hsub2⟩; replace hS := hS.call1 0 rfl hc; try simp only [List.cons_append, List.nil_append, List.append_nil, List.set_cons_zero, List.set_cons_succ] at hS; replace hsub := hsub.trans hsub2; clear hc hsub2
          go_wp2_with fail
          go_meet
          rw [Hbody.out]
          exact ⟨_, _, none, none, v2, hS.addNone.addNone, hsub, Memo.Fit.zero', RowV.nil _ _, RowV.nil _ _⟩
  case rest =>
    clear hS hsub
    obtain ⟨tv, wv, x, y, v', hS, hsub, hfit, hrx, hry⟩ := hcut
    generalize readBody k ch s1 = ms at *
    obtain ⟨m, s2⟩ := ms
    obtain ⟨a0, c0, rfl⟩ := hrx.isSl
    obtain ⟨a1, c1, rfl⟩ := hry.isSl
    have Hrx := Lib.hid hrx
    have Hry := Lib.hid hry
    have Hfit2 := Lib.hid hfit
    have Hone := Lib.hid (Memo.one m (.slice a0 m.trail.length c0) (.slice a1 m.sig.way.length c1) rfl rfl)
    clear hrx hry hfit
    simp only [] at hS hsub
    by_cases hb0 : s2.bad = 0
    · have hb1 : (s2.bad == 0) = true := by simpa using hb0
      have Hb0 := Lib.hid hb0
      clear hb0
      cases hr : m.right with
      | true =>
        have Hr := Lib.hid hr
        have Hread2 := Lib.hid (show readMemo l = (if s2.fin.bad ≠ 0 then (Memo.zero, s2.fin.bad) else (m, 0)) by rw [Hread.out]; simp [Hr.out])
        clear hr
        go_wp2_with fail
        refine (bad_ok b _ _ _ (hS.get 0 rfl)).mono ?_
        rintro e w1 ⟨rfl, rfl⟩
        go_wp2_with (first | ((with_reducible show wpList _ _ _ (Oper.mk _ (Op.load _ _) _ _ _ _ :: _) _ _); refine wpl rfl ?_; refine (owp_loadW hS 3 rfl rfl rfl (Hfit2.out.len _ _) ?_)))
        refine (right_ok m _ a0 c0 a1 c1 ⟨rfl, Hfit2.out⟩ _).mono ?_
        rintro e w2 ⟨rfl, hc⟩
        rw [Hr.out]
        replace hS := hS.call0 hc
        try simp only [List.cons_append, List.nil_append, List.append_nil, List.set_cons_zero, List.set_cons_succ] at hS
        clear hc
        go_wp2_with fail
        generalize s2 = s3 at *
        go_wp2_with fail
        refine (end_ok b _ s3 (hsub _ _ (Hv.out _ _ _ _ _ hS)).le _ (hS.get 0 rfl) (hsub _ _ (Hv.out _ _ _ _ _ hS))).mono ?_
        rintro e w3 ⟨rfl, v5, hc, hsub2⟩
        replace hS := hS.call1 0 rfl hc
        try simp only [List.cons_append, List.nil_append, List.append_nil, List.set_cons_zero, List.set_cons_succ] at hS
        clear hc hsub2
        generalize s3.fin.bad = eb at *
        by_cases he : eb = 0
        · subst he
          have Hread3 := Lib.hid (show readMemo l = (m, 0) by rw [Hread2.out]; simp)
          clear Hread2 Hread
          go_wp2_with (first | ((with_reducible show wpList _ _ _ (Oper.mk _ (Op.load _ _) _ _ _ _ :: _) _ _); refine wpl rfl ?_; refine (owp_loadW hS 3 rfl rfl rfl (Hfit2.out.len _ _) ?_)) | ((with_reducible show wpList _ _ _ (Oper.mk _ (Op.store _ _ _) _ _ _ _ :: _) _ _); refine wpl rfl ?_; refine (owp_storeW hS 2 rfl rfl rfl rfl (Hfit2.out.len _ _) (Hfit.out.len _ _) (Hone.out) ?_); clear hS; intro _ hS; try simp only [List.cons_append, List.nil_append, List.append_nil, List.set_cons_zero, List.set_cons_succ] at hS))
          (try simp only [Exit.inBlock, Exit.then]); refine bodyPost_ret (res_cell2 rfl rfl hS 2 rfl (Hfit2.out.len _ _)) rfl ?_
          refine ⟨.slice a0 m.trail.length c0, .slice a1 m.sig.way.length c1, x, y, ?_, hS.pick [4, 5] rfl (by decide), ?_, ?_⟩
          · rw [Hread3.out]; rfl
          · rw [Hread3.out]; exact Hrx.out
          · rw [Hread3.out]; exact Hry.out
        · have Hread3 := Lib.hid (show readMemo l = (Memo.zero, eb) by rw [Hread2.out, if_pos he])
          have he1 : (eb != 0) = true := by simpa using he
          clear Hread2 Hread he
          go_wp2_with (first | ((with_reducible show wpList _ _ _ (Oper.mk _ (Op.build _ _) _ _ _ _ :: _) _ _); refine wpl rfl ?_; refine owp_build rfl [] rfl (build_memo0 _) ?_) | ((with_reducible show wpList _ _ _ (Oper.mk _ (Op.store _ _ _) _ _ _ _ :: _) _ _); refine wpl rfl ?_; refine (owp_storeW hS 2 rfl rfl rfl rfl (Hfit.out.len _ _) (Hfit.out.len _ _) (Memo.one _ _ _ rfl rfl) ?_); clear hS; intro _ hS; try simp only [List.cons_append, List.nil_append, List.append_nil, List.set_cons_zero, List.set_cons_succ] at hS))
          (try simp only [Exit.inBlock, Exit.then]); refine bodyPost_ret (res_cell2 rfl rfl hS 2 rfl (Hfit.out.len _ _)) rfl ?_
          refine ⟨.slice none 0 0, .slice none 0 0, none, none, ?_, (hS.pick [] rfl (by decide)).addNone.addNone, ?_, ?_⟩
          · rw [Hread3.out]; rfl
          · rw [Hread3.out]; exact RowV.nil _ _
          · rw [Hread3.out]; exact RowV.nil _ _
      | false =>
        have Hr := Lib.hid hr
        have Hread2 := Lib.hid (show readMemo l = (if (s2.fail 10).fin.bad ≠ 0 then (Memo.zero, (s2.fail 10).fin.bad) else (m, 0)) by rw [Hread.out]; simp [Hr.out, Hb0.out])
        clear hr
        go_wp2_with fail
        refine (bad_ok b _ _ _ (hS.get 0 rfl)).mono ?_
        rintro e w1 ⟨rfl, rfl⟩
        go_wp2_with (first | ((with_reducible show wpList _ _ _ (Oper.mk _ (Op.load _ _) _ _ _ _ :: _) _ _); refine wpl rfl ?_; refine (owp_loadW hS 3 rfl rfl rfl (Hfit2.out.len _ _) ?_)))
        refine (right_ok m _ a0 c0 a1 c1 ⟨rfl, Hfit2.out⟩ _).mono ?_
        rintro e w2 ⟨rfl, hc⟩
        rw [Hr.out]
        replace hS := hS.call0 hc
        try simp only [List.cons_append, List.nil_append, List.append_nil, List.set_cons_zero, List.set_cons_succ] at hS
        clear hc
        go_wp2_with fail
        refine (fail_ok b _ _ 10 _ (hS.get 0 rfl)).mono ?_; rintro e w1 ⟨rfl, v2, hc, hsub2⟩; replace hS := hS.call1 0 rfl hc; try simp only [List.cons_append, List.nil_append, List.append_nil, List.set_cons_zero, List.set_cons_succ] at hS; replace hsub := hsub.trans hsub2; clear hc hsub2
        generalize s2.fail 10 = s3 at *
        go_wp2_with fail
        refine (end_ok b _ s3 (hsub _ _ (Hv.out _ _ _ _ _ hS)).le _ (hS.get 0 rfl) (hsub _ _ (Hv.out _ _ _ _ _ hS))).mono ?_
        rintro e w3 ⟨rfl, v5, hc, hsub2⟩
        replace hS := hS.call1 0 rfl hc
        try simp only [List.cons_append, List.nil_append, List.append_nil, List.set_cons_zero, List.set_cons_succ] at hS
        clear hc hsub2
        generalize s3.fin.bad = eb at *
        by_cases he : eb = 0
        · subst he
          have Hread3 := Lib.hid (show readMemo l = (m, 0) by rw [Hread2.out]; simp)
          clear Hread2 Hread
          go_wp2_with (first | ((with_reducible show wpList _ _ _ (Oper.mk _ (Op.load _ _) _ _ _ _ :: _) _ _); refine wpl rfl ?_; refine (owp_loadW hS 3 rfl rfl rfl (Hfit2.out.len _ _) ?_)) | ((with_reducible show wpList _ _ _ (Oper.mk _ (Op.store _ _ _) _ _ _ _ :: _) _ _); refine wpl rfl ?_; refine (owp_storeW hS 2 rfl rfl rfl rfl (Hfit2.out.len _ _) (Hfit.out.len _ _) (Hone.out) ?_); clear hS; intro _ hS; try simp only [List.cons_append, List.nil_append, List.append_nil, List.set_cons_zero, List.set_cons_succ] at hS))
          (try simp only [Exit.inBlock, Exit.then]); refine bodyPost_ret (res_cell2 rfl rfl hS 2 rfl (Hfit2.out.len _ _)) rfl ?_
          refine ⟨.slice a0 m.trail.length c0, .slice a1 m.sig.way.length c1, x, y, ?_, hS.pick [4, 5] rfl (by decide), ?_, ?_⟩
          · rw [Hread3.out]; rfl
          · rw [Hread3.out]; exact Hrx.out
          · rw [Hread3.out]; exact Hry.out
        · have Hread3 := Lib.hid (show readMemo l = (Memo.zero, eb) by rw [Hread2.out, if_pos he])
          have he1 : (eb != 0) = true := by simpa using he
          clear Hread2 Hread he
          go_wp2_with (first | ((with_reducible show wpList _ _ _ (Oper.mk _ (Op.build _ _) _ _ _ _ :: _) _ _); refine wpl rfl ?_; refine owp_build rfl [] rfl (build_memo0 _) ?_) | ((with_reducible show wpList _ _ _ (Oper.mk _ (Op.store _ _ _) _ _ _ _ :: _) _ _); refine wpl rfl ?_; refine (owp_storeW hS 2 rfl rfl rfl rfl (Hfit.out.len _ _) (Hfit.out.len _ _) (Memo.one _ _ _ rfl rfl) ?_); clear hS; intro _ hS; try simp only [List.cons_append, List.nil_append, List.append_nil, List.set_cons_zero, List.set_cons_succ] at hS))
          (try simp only [Exit.inBlock, Exit.then]); refine bodyPost_ret (res_cell2 rfl rfl hS 2 rfl (Hfit.out.len _ _)) rfl ?_
          refine ⟨.slice none 0 0, .slice none 0 0, none, none, ?_, (hS.pick [] rfl (by decide)).addNone.addNone, ?_, ?_⟩
          · rw [Hread3.out]; rfl
          · rw [Hread3.out]; exact RowV.nil _ _
          · rw [Hread3.out]; exact RowV.nil _ _
    · have hb1 : (s2.bad == 0) = false := by simpa using hb0
      have Hread2 := Lib.hid (show readMemo l = (if s2.fin.bad ≠ 0 then (Memo.zero, s2.fin.bad) else (m, 0)) by rw [Hread.out]; simp [hb0])
      clear hb0
      go_wp2_with fail
      refine (bad_ok b _ _ _ (hS.get 0 rfl)).mono ?_
      rintro e w1 ⟨rfl, rfl⟩
      generalize s2 = s3 at *
      go_wp2_with fail
      refine (end_ok b _ s3 (hsub _ _ (Hv.out _ _ _ _ _ hS)).le _ (hS.get 0 rfl) (hsub _ _ (Hv.out _ _ _ _ _ hS))).mono ?_
      rintro e w3 ⟨rfl, v5, hc, hsub2⟩
      replace hS := hS.call1 0 rfl hc
      try simp only [List.cons_append, List.nil_append, List.append_nil, List.set_cons_zero, List.set_cons_succ] at hS
      clear hc hsub2
      generalize s3.fin.bad = eb at *
      by_cases he : eb = 0
      · subst he
        have Hread3 := Lib.hid (show readMemo l = (m, 0) by rw [Hread2.out]; simp)
        clear Hread2 Hread
        go_wp2_with (first | ((with_reducible show wpList _ _ _ (Oper.mk _ (Op.load _ _) _ _ _ _ :: _) _ _); refine wpl rfl ?_; refine (owp_loadW hS 3 rfl rfl rfl (Hfit2.out.len _ _) ?_)) | ((with_reducible show wpList _ _ _ (Oper.mk _ (Op.store _ _ _) _ _ _ _ :: _) _ _); refine wpl rfl ?_; refine (owp_storeW hS 2 rfl rfl rfl rfl (Hfit2.out.len _ _) (Hfit.out.len _ _) (Hone.out) ?_); clear hS; intro _ hS; try simp only [List.cons_append, List.nil_append, List.append_nil, List.set_cons_zero, List.set_cons_succ] at hS))
        (try simp only [Exit.inBlock, Exit.then]); refine bodyPost_ret (res_cell2 rfl rfl hS 2 rfl (Hfit2.out.len _ _)) rfl ?_
        refine ⟨.slice a0 m.trail.length c0, .slice a1 m.sig.way.length c1, x, y, ?_, hS.pick [4, 5] rfl (by decide), ?_, ?_⟩
        · rw [Hread3.out]; rfl
        · rw [Hread3.out]; exact Hrx.out
        · rw [Hread3.out]; exact Hry.out
      · have Hread3 := Lib.hid (show readMemo l = (Memo.zero, eb) by rw [Hread2.out, if_pos he])
        have he1 : (eb != 0) = true := by simpa using he
        clear Hread2 Hread he
        go_wp2_with (first | ((with_reducible show wpList _ _ _ (Oper.mk _ (Op.build _ _) _ _ _ _ :: _) _ _); refine wpl rfl ?_; refine owp_build rfl [] rfl (build_memo0 _) ?_) | ((with_reducible show wpList _ _ _ (Oper.mk _ (Op.store _ _ _) _ _ _ _ :: _) _ _); refine wpl rfl ?_; refine (owp_storeW hS 2 rfl rfl rfl rfl (Hfit.out.len _ _) (Hfit.out.len _ _) (Memo.one _ _ _ rfl rfl) ?_); clear hS; intro _ hS; try simp only [List.cons_append, List.nil_append, List.append_nil, List.set_cons_zero, List.set_cons_succ] at hS))
        (try simp only [Exit.inBlock, Exit.then]); refine bodyPost_ret (res_cell2 rfl rfl hS 2 rfl (Hfit.out.len _ _)) rfl ?_
        refine ⟨.slice none 0 0, .slice none 0 0, none, none, ?_, (hS.pick [] rfl (by decide)).addNone.addNone, ?_, ?_⟩
        · rw [Hread3.out]; rfl
        · rw [Hread3.out]; exact RowV.nil _ _
        · rw [Hread3.out]; exact RowV.nil _ _

end Go.Proofs.Ytjgphbdffhmmgaa
