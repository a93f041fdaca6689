/-
  A state, as it is taken off bytes by the program.
-/
import Derived.Test.YtldmkafobbemjaaB2
import Derived.Test.YtldmkafobbemjaaA3
namespace Go.Proofs.Ytldmkafobbemjaa
set_option linter.unusedSimpArgs false
set_option linter.unusedVariables false
open Go Go.RowKit
set_option maxRecDepth 100000
set_option maxHeartbeats 2000000

instance zeState : ZeroOK Try.prog 31 (State.zero.cells (.slice none 0 0)) := ⟨by kernel_rfl⟩
instance zePtr64 : ZeroOK Try.prog 116 [.pointer none] := ⟨by kernel_rfl⟩
instance zeStateR : ZeroOK Try.prog 59 (State.zero.cells (.slice none 0 0)) := ⟨by kernel_rfl⟩

section
variable {P : Program} {ops : Array Oper} {Q : Exit → Act → World → Prop} {K : Act → World → Prop} {a : Act} {w : World} {rest : List Oper} {o : Oper}
variable {w0 : World} {A : List Nat} {L : List Ent} (hS : St w0 A w L)
include hS
/-- A slice literal of four one-cell elements. -/
theorem owp_bslice4 {T e : TypeId} {x y z t : Operand} (ho : o.op = .buildSlice T 4 #[(0, x), (1, y), (2, z), (3, t)]) {bytes : Nat} [hT : SliceOK P T e 1 bytes] {q : Value} [hz : ZeroOK P e [q]]
    {u v r s : Value} (hx : a.eval x = u) (hy : a.eval y = v) (hzz : a.eval z = r) (ht : a.eval t = s) (hu : u.oneCell' = true) (hv : v.oneCell' = true) (hr : r.oneCell' = true) (hs : s.oneCell' = true)
    (hk : ∀ g w1, St w0 A w1 (L ++ [some (g, [u, v, r, s], e)]) → K (a.put o.dst (.slice (some ⟨g, 0, none⟩) 4 4)) w1) : o.wp P a w K Q := by
  refine owp_bslice hS (cs := [u, v, r, s]) (zs := [q]) ho (hT := hT) (by omega) (.inr hz) ?_ hk
  have e1 : (Array.range (4 * 1)).map ([q].toArray[· % [q].toArray.size]!) = [q, q, q, q].toArray := by
    apply Array.ext
    · simp
    · intro i h1 h2
      simp at h1 h2
      rcases i with _ | _ | _ | _ | i
      · simp
      · simp
      · simp
      · simp
      · omega
  rw [e1]
  have hcu : u.cells = [u].toArray := by cases u <;> first | rfl | cases hu
  have hcv : v.cells = [v].toArray := by cases v <;> first | rfl | cases hv
  have hcr : r.cells = [r].toArray := by cases r <;> first | rfl | cases hr
  have hcs : s.cells = [s].toArray := by cases s <;> first | rfl | cases hs
  have h1 := fill_part (fun i => some (i * 1, 1)) [q, q, q, q] 0 u [(1, v), (2, r), (3, s)] 0 1 (by simp) [u] hcu rfl (by simp)
  have h2 := fill_part (fun i => some (i * 1, 1)) [u, q, q, q] 1 v [(2, r), (3, s)] 1 1 (by simp) [v] hcv rfl (by simp)
  have h3 := fill_part (fun i => some (i * 1, 1)) [u, v, q, q] 2 r [(3, s)] 2 1 (by simp) [r] hcr rfl (by simp)
  have h4 := fill_part (fun i => some (i * 1, 1)) [u, v, r, q] 3 s [] 3 1 (by simp) [s] hcs rfl (by simp)
  simp only [List.map_toArray, List.map_cons, List.map_nil, hx, hy, hzz, ht]
  rw [h1]
  show Instr.fill (fun i => some (i * 1, 1)) [u, q, q, q].toArray [(1, v), (2, r), (3, s)] = _
  rw [h2]
  show Instr.fill (fun i => some (i * 1, 1)) [u, v, q, q].toArray [(2, r), (3, s)] = _
  rw [h3]
  show Instr.fill (fun i => some (i * 1, 1)) [u, v, r, q].toArray [(3, s)] = _
  rw [h4]
  simp [Instr.fill]
end

/-- A state's cells while its four numbers are read: k of them stand. -/
def stateAt (ch r : Nat) (l : List Nat) (k : Nat) (cv : Value) : List Value := [.int .u32 ch, .int .u64 r] ++ (l.map (fun n : Nat => Value.int .u64 n) ++ List.replicate (4 - k) (.int .u64 0)) ++ [cv]
theorem takeState_eq (s : PS) : takeState s =
    (if (times takeCond ((times (PS.num 8) 4 ((s.num 4).2.num 8).2).2.many 8).1 ((times (PS.num 8) 4 ((s.num 4).2.num 8).2).2.many 8).2).2.bad ≠ 0 then State.zero
      else ⟨(s.num 4).1, ((s.num 4).2.num 8).1, (times (PS.num 8) 4 ((s.num 4).2.num 8).2).1.getD 0 0, (times (PS.num 8) 4 ((s.num 4).2.num 8).2).1.getD 1 0, (times (PS.num 8) 4 ((s.num 4).2.num 8).2).1.getD 2 0, (times (PS.num 8) 4 ((s.num 4).2.num 8).2).1.getD 3 0,
        (times takeCond ((times (PS.num 8) 4 ((s.num 4).2.num 8).2).2.many 8).1 ((times (PS.num 8) 4 ((s.num 4).2.num 8).2).2.many 8).2).1⟩,
      (times takeCond ((times (PS.num 8) 4 ((s.num 4).2.num 8).2).2.many 8).1 ((times (PS.num 8) 4 ((s.num 4).2.num 8).2).2.many 8).2).2) := by
  simp [takeState, times_succ, times_zero]

theorem stateAt_one (ch r : Nat) (l : List Nat) (k : Nat) (cv : Value) (hc : cv.oneCell' = true) : ∀ x, x ∈ stateAt ch r l k cv → x.oneCell' = true := by
  intro x hx
  simp only [stateAt, List.mem_append, List.mem_cons, List.not_mem_nil, or_false, List.mem_map, List.mem_replicate] at hx
  rcases hx with ((rfl | rfl) | ⟨_, _, rfl⟩ | ⟨_, rfl⟩) | rfl
  · rfl
  · rfl
  · rfl
  · rfl
  · exact hc
theorem stateAt_set (ch r n k : Nat) (cv : Value) (l : List Nat) (hl : l.length = k) (hk : k < 4) : (stateAt ch r l k cv).set (2 + k) (.int .u64 n) = stateAt ch r (l ++ [n]) (k + 1) cv := by
  subst hl
  match l, hk with
  | [], _ => rfl
  | [_], _ => rfl
  | [_, _], _ => rfl
  | [_, _, _], _ => rfl
theorem stateAt_len (ch r k : Nat) (cv : Value) (l : List Nat) (hl : l.length = k) (hk : k ≤ 4) : (stateAt ch r l k cv).length = 7 := by
  simp only [stateAt, List.length_append, List.length_cons, List.length_nil, List.length_map, List.length_replicate, hl]; omega
def fourPtrs (g : Nat) : List Value := [.pointer (some ⟨g, 2, none⟩), .pointer (some ⟨g, 3, none⟩), .pointer (some ⟨g, 4, none⟩), .pointer (some ⟨g, 5, none⟩)]
theorem fourPtrs_get (g k : Nat) (hk : k < 4) : (fourPtrs g)[k]? = some (.pointer (some ⟨g, 2 + k, none⟩)) := by
  match k, hk with
  | 0, _ => rfl
  | 1, _ => rfl
  | 2, _ => rfl
  | 3, _ => rfl
theorem times_nums_len (k : Nat) (s : PS) : (times (PS.num 8) k s).1.length = k := times_len _ _ _
theorem four_getD (l : List Nat) (h : l.length = 4) : l = [l.getD 0 0, l.getD 1 0, l.getD 2 0, l.getD 3 0] := by
  match l, h with
  | [a, b, c, d], _ => rfl
theorem build_state (ch r : Nat) (w : World) : (Instr.build 31 #[(0, .int .u32 ch), (1, .int .u64 r)]).run Try.prog w = .ok (.agg (stateAt ch r [] 0 (.slice none 0 0)).toArray) w := by kernel_rfl
theorem build_state0 (w : World) : (Instr.build 31 #[]).run Try.prog w = .ok (.agg (State.zero.cells (.slice none 0 0)).toArray) w := by kernel_rfl

def StatePost (T : TypeId) (w : World) (b : Nat) (v : Value) (s : PS) (e : Ending) (w' : World) : Prop :=
  ∃ cv v' x, e = .returned (.agg ((takeState s).1.cells cv).toArray) ∧ St w [b] w' [inBlk b v' (takeState s).2.bad, x] ∧ SubV v s.rest v' (takeState s).2.rest ∧
    RowV T 36 cv (takeState s).1.conds.length (condCells (takeState s).1.conds) x

theorem takeState_ok (b : Nat) (v : Value) (s : PS) (w : World) (hb : Holds w (inBlk b v s.bad)) (hv : InV w b v s.rest) :
    Calls Try.prog 15 #[.pointer (some ⟨b, 0, none⟩)] w (StatePost 86 w b v s) := by
  have hS := in_start hb
  have hsub := SubV.refl v s.rest
  go_enter Try.func15, Try.ntmps15
  go_wp2_with (first | ((with_reducible show wpList _ _ _ (Oper.mk (some 2) (Op.alloc _) _ _ _ _ :: _) _ _); refine wpl rfl ?_; refine (owp_allocAt hS 2 rfl rfl ?_); clear hS; intro gr _ hS; simp only [List.cons_append, List.nil_append] at hS))
  refine (four_ok b _ _ _ (hS.get 0 rfl) ((hsub _ _ hv).st hS (.inl rfl))).mono ?_; rintro e w1 ⟨rfl, v2, hc, hsub2⟩; replace hS := hS.call1 0 rfl hc; try simp only [List.cons_append, List.nil_append, List.append_nil, List.set_cons_zero, List.set_cons_succ] at hS; replace hsub := hsub.trans hsub2; clear hc hsub2
  go_wp2_with fail
  refine (eight_ok b _ _ _ (hS.get 0 rfl) ((hsub _ _ hv).st hS (.inl rfl))).mono ?_; rintro e w1 ⟨rfl, v2, hc, hsub2⟩; replace hS := hS.call1 0 rfl hc; try simp only [List.cons_append, List.nil_append, List.append_nil, List.set_cons_zero, List.set_cons_succ] at hS; replace hsub := hsub.trans hsub2; clear hc hsub2
  go_wp2_with (first
    | ((with_reducible show wpList _ _ _ (Oper.mk _ (Op.build _ _) _ _ _ _ :: _) _ _); refine wpl rfl ?_; refine owp_build rfl [(0, .int .u32 _), (1, .int .u64 _)] rfl (build_state _ _ _) ?_)
    | ((with_reducible show wpList _ _ _ (Oper.mk (some 3) (Op.alloc _) _ _ _ _ :: _) _ _); refine wpl rfl ?_; refine (owp_allocAt hS 3 rfl rfl ?_); clear hS; intro gs _ hS; simp only [List.cons_append, List.nil_append] at hS)
    | ((with_reducible show wpList _ _ _ (Oper.mk _ (Op.store _ _ _) _ _ _ _ :: _) _ _); refine wpl rfl ?_; refine (owp_storeW hS 2 rfl rfl rfl rfl (by rfl) (by rfl) (stateAt_one _ _ _ _ _ rfl) ?_); clear hS; intro _ hS; try simp only [List.cons_append, List.nil_append, List.append_nil, List.set_cons_zero, List.set_cons_succ] at hS)
    | ((with_reducible show wpList _ _ _ (Oper.mk _ (Op.buildSlice _ _ _) _ _ _ _ :: _) _ _); refine wpl rfl ?_; refine owp_bslice4 hS rfl rfl rfl rfl rfl rfl rfl rfl rfl ?_; clear hS; intro gp _ hS; try simp only [List.cons_append, List.nil_append, List.append_nil, List.set_cons_zero, List.set_cons_succ] at hS))
  have Htk := Lib.hid (takeState_eq s)
  generalize (s.num 4).1 = ch at *
  generalize ((s.num 4).2.num 8).1 = r at *
  generalize ((s.num 4).2.num 8).2 = s1 at *
  go_loopw [5, 21] (fun _ i wr => ∃ (k : Nat) (v' : Value), k ≤ 4 ∧ i = .int .i64 k ∧ St w [b] wr [inBlk b v' (times (PS.num 8) k s1).2.bad, some (gr, State.zero.cells (.slice none 0 0), 31), some (gs, stateAt ch r (times (PS.num 8) k s1).1 k (.slice none 0 0), 31), some (gp, fourPtrs gs, 116)] ∧ SubV v s.rest v' (times (PS.num 8) k s1).2.rest) (fun _ i _ => 4 - (intOf i).toNat)
  case atStart => exact ⟨0, v2, by omega, rfl, by rw [times_zero]; exact hS, by rw [times_zero]; exact hsub⟩
  case round =>
    clear hS hsub
    obtain ⟨k, v3, hk, rfl, hS, hsub⟩ := hrel
    by_cases hlt : k < 4
    · have Hstep := Lib.hid (times_succ (PS.num 8) k s1)
      have hl := times_nums_len k s1
      generalize (times (PS.num 8) k s1).1 = l at *
      generalize (times (PS.num 8) k s1).2 = s2 at *
      have Hp := Lib.hid (fourPtrs_get gs k hlt)
      have Hset := Lib.hid (fun n => stateAt_set ch r n k (.slice none 0 0) l hl hlt)
      have Hlen := Lib.hid (stateAt_len ch r k (.slice none 0 0) l hl hk)
      have hi : (k : Int) < 4 := by omega
      clear hl
      go_wp2_with (first | ((with_reducible show wpList _ _ _ (Oper.mk _ (Op.load _ _) _ _ _ _ :: _) _ _); refine wpl rfl ?_; refine owp_load1 hS 3 rfl rfl rfl Hp.out ?_))
      refine (eight_ok b _ _ _ (hS.get 0 rfl) ((hsub _ _ hv).st hS (.inl rfl))).mono ?_; rintro e w1 ⟨rfl, v2, hc, hsub2⟩; replace hS := hS.call1 0 rfl hc; try simp only [List.cons_append, List.nil_append, List.append_nil, List.set_cons_zero, List.set_cons_succ] at hS; replace hsub := hsub.trans hsub2; clear hc hsub2
      go_wp2_with (first | ((with_reducible show wpList _ _ _ (Oper.mk _ (Op.store _ _ _) _ _ _ _ :: _) _ _); refine wpl rfl ?_; refine owp_store1 hS 2 rfl rfl rfl rfl rfl (by rw [Hlen.out]; omega) (Hset.out _) ?_; clear hS; intro _ hS; try simp only [List.cons_append, List.nil_append, List.append_nil, List.set_cons_zero, List.set_cons_succ] at hS))
      go_roundw
      case rel =>
        refine ⟨k + 1, v2, by omega, by go_num, ?_, ?_⟩
        · rw [Hstep.out]; exact hS
        · rw [Hstep.out]; exact hsub
      case measure => simp [intOf]; omega
    · have hk4 : k = 4 := by omega
      subst hk4
      have hq := four_getD _ (times_nums_len 4 s1)
      generalize (times (PS.num 8) 4 s1).1 = l at *
      generalize (times (PS.num 8) 4 s1).2 = s2 at *
      obtain ⟨q0, q1, q2, q3, rfl⟩ : ∃ q0 q1 q2 q3, l = [q0, q1, q2, q3] := ⟨_, _, _, _, hq⟩
      clear hq
      rw [show stateAt ch r [q0, q1, q2, q3] 4 (.slice none 0 0) = State.cells ⟨ch, r, q0, q1, q2, q3, []⟩ (.slice none 0 0) from rfl] at hS
      go_wp2_with fail
      refine (many_ok 8 (by omega) b _ _ _ (hS.get 0 rfl) ((hsub _ _ hv).st hS (.inl rfl))).mono ?_
      rintro e w1 ⟨rfl, v4, hc, hsub2⟩
      replace hS := hS.call1 0 rfl hc
      try simp only [List.cons_append, List.nil_append, List.append_nil, List.set_cons_zero, List.set_cons_succ] at hS
      replace hsub := hsub.trans hsub2
      clear hc hsub2
      have hn := many_le 8 s2
      generalize (s2.many 8).1 = n at *
      generalize (s2.many 8).2 = s3 at *
      replace hS := hS.addNone
      try simp only [List.cons_append, List.nil_append, List.append_nil, List.set_cons_zero, List.set_cons_succ] at hS
      go_wp2_with fail
      go_loopw [32] (fun i wr => ∃ (k : Nat) (v' cv : Value) (x : Ent), k ≤ n ∧ i = .int .i64 k ∧ RowV 86 36 cv k (condCells (times takeCond k s3).1) x ∧
        St w [b] wr [inBlk b v' (times takeCond k s3).2.bad, some (gr, State.zero.cells (.slice none 0 0), 31), some (gs, State.cells ⟨ch, r, q0, q1, q2, q3, []⟩ cv, 31), some (gp, fourPtrs gs, 116), x] ∧ SubV v s.rest v' (times takeCond k s3).2.rest) (fun i _ => n - (intOf i).toNat)
      case atStart => exact ⟨0, v4, .slice none 0 0, none, Nat.zero_le _, rfl, by rw [times_zero]; exact RowV.nil _ _, by rw [times_zero]; exact hS, by rw [times_zero]; exact hsub⟩
      case round =>
        clear hS hsub
        obtain ⟨k, v5, cv, x, hk, rfl, hrow, hS, hsub⟩ := hrel
        obtain ⟨a5, c5, rfl⟩ := hrow.isSl
        by_cases hlt : k < n
        · have Hstep := Lib.hid (times_succ takeCond k s3)
          generalize (times takeCond k s3).1 = l at *
          generalize (times takeCond k s3).2 = s4 at *
          have Hcl := Lib.hid (Cond.len (takeCond s4).1 (takeCond_hash s4))
          have h63 : k + 1 ≤ maxLen := by unfold maxLen; omega
          have hby : (k + 1) * 64 ≤ 140737488355328 := by omega
          have hi : (k : Int) < n := by omega
          go_wp2_with fail
          replace hS := hS.drew
          refine wp_region_held_drew (S := (fun _ => True)) (by kernel_rfl) trivial (fun hHeld => ?_)
          refine htake (i := 0) (v := (.pointer (some ⟨gs, 6, none⟩))) rfl (by kernel_rfl) (by kernel_rfl) (by kernel_rfl) (fun _ _ _ h => h) (Or.inl ⟨by rfl, by (intro w hSw; (try dsimp only at hSw); (try obtain hSw := hSw); go_simp; try with_reducible rfl)⟩) (by assumption) ?_; simp only [Act.put, List.setIfInBounds_toArray, List.set_cons_succ, List.set_cons_zero]
          refine htake (i := 2) (v := (.pointer (some ⟨b, 0, none⟩))) rfl (by kernel_rfl) (by kernel_rfl) (by kernel_rfl) (fun _ _ _ h => h) (Or.inl ⟨by rfl, by (intro w hSw; (try dsimp only at hSw); (try obtain hSw := hSw); go_simp; try with_reducible rfl)⟩) (by assumption) ?_; simp only [Act.put, List.setIfInBounds_toArray, List.set_cons_succ, List.set_cons_zero]
          refine wpAnyH_ready (rs := [1, 3]) (by kernel_rfl) (by simp) ?_
          refine hcons rfl rfl (fun K hK => ?_) ?_
          · clear hHeld
            refine owp_load1 hS 2 rfl rfl rfl (show (State.cells ⟨ch, r, q0, q1, q2, q3, []⟩ (.slice a5 k c5))[6]? = some (.slice a5 k c5) from rfl) ?_
            refine hK.out _ _ trivial (fun hHeld => ?_)
            clear hK K
            simp only [Act.put, List.setIfInBounds_toArray, List.set_cons_succ, List.set_cons_zero]
            refine wpAnyH_ready (rs := [3]) (by kernel_rfl) (by simp) ?_
            refine hcons rfl rfl (fun K hK => ?_) ?_
            · clear hHeld
              have hcall := takeCond_ok b _ s4 _ (hS.get 0 rfl) ((hsub _ _ hv).st hS (.inl rfl))
              refine owp_call rfl (by kernel_rfl) (args := #[.pointer (some ⟨b, 0, none⟩)]) rfl hcall ?_
              clear hcall
              rintro e w5 ⟨rfl, v6, hc, hsub2⟩
              replace hS := hS.call1 0 rfl hc
              try simp only [List.cons_append, List.nil_append, List.append_nil, List.set_cons_zero, List.set_cons_succ] at hS
              replace hsub := hsub.trans hsub2
              clear hc hsub2
              refine ⟨_, rfl, ?_⟩
              refine hK.out _ _ trivial (fun hHeld => ?_)
              clear hK K
              simp only [Act.put, List.setIfInBounds_toArray, List.set_cons_succ, List.set_cons_zero]
              refine wpAnyH_ready (rs := [4]) (by kernel_rfl) (by simp) ?_
              refine hcons rfl rfl (fun K hK => ?_) ?_
              · clear hHeld
                refine owp_bslice1 (vs := (takeCond s4).1.cells) hS rfl rfl Hcl.out (by decide) ?_
                clear hS; intro ge _ hS; try simp only [List.cons_append, List.nil_append, List.append_nil, List.set_cons_zero, List.set_cons_succ] at hS
                refine hK.out _ _ trivial (fun hHeld => ?_)
                clear hK K
                simp only [Act.put, List.setIfInBounds_toArray, List.set_cons_succ, List.set_cons_zero]
                refine wpAnyH_ready (rs := [5]) (by kernel_rfl) (by simp) ?_
                refine hcons rfl rfl (fun K hK => ?_) ?_
                · clear hHeld
                  refine owp_append hS 4 rfl rfl rfl hrow rfl ((RowV.lit 86 36 ge 1 (takeCond s4).1.cells (by rw [Hcl.out]) (by decide)).read (hS.get 5 rfl)) (Cond.one _) h63 hby ?_
                  clear hS hrow
                  intro v7 x7 _ hrow hS _
                  obtain ⟨a7, c7, rfl⟩ := hrow.isSl
                  try simp only [List.cons_append, List.nil_append, List.append_nil, List.set_cons_zero, List.set_cons_succ] at hS
                  refine hK.out _ _ trivial (fun hHeld => ?_)
                  clear hK K
                  simp only [Act.put, List.setIfInBounds_toArray, List.set_cons_succ, List.set_cons_zero]
                  refine htake (i := 6) (v := (.pointer (some ⟨gs, 6, none⟩))) rfl (by kernel_rfl) (by kernel_rfl) (by kernel_rfl) (fun _ _ _ h => h) (Or.inl ⟨by rfl, by (intro w hSw; (try dsimp only at hSw); (try obtain hSw := hSw); go_simp; try with_reducible rfl)⟩) (by assumption) ?_; simp only [Act.put, List.setIfInBounds_toArray, List.set_cons_succ, List.set_cons_zero]
                  refine wpAnyH_ready (rs := [7]) (by kernel_rfl) (by simp) ?_
                  refine hcons rfl rfl (fun K hK => ?_) ?_
                  · clear hHeld
                    refine owp_store1 hS 2 rfl rfl rfl rfl rfl (show 6 < 7 by omega) (show (State.cells ⟨ch, r, q0, q1, q2, q3, []⟩ (.slice a5 k c5)).set 6 (.slice a7 (k + 1) c7) = State.cells ⟨ch, r, q0, q1, q2, q3, []⟩ (.slice a7 (k + 1) c7) from rfl) ?_
                    clear hS; intro _ hS; try simp only [List.cons_append, List.nil_append, List.append_nil, List.set_cons_zero, List.set_cons_succ] at hS
                    refine hK.out _ _ trivial (fun hHeld => ?_)
                    clear hK K
                    simp only [Act.put, List.setIfInBounds_toArray, List.set_cons_succ, List.set_cons_zero]
                    refine wpAnyH_done (by kernel_rfl) ?_ _
                    clear hHeld
                    go_wp2_with fail
                    go_roundw
                    case rel =>
                      refine ⟨k + 1, v6, .slice a7 (k + 1) c7, x7, by omega, by go_num, ?_, ?_, ?_⟩
                      · rw [Hstep.out, condCells_snoc]; exact hrow
                      · rw [Hstep.out]; exact hS.pick [0, 1, 2, 3, 4] rfl (by decide)
                      · rw [Hstep.out]; exact hsub
                    case measure => simp [intOf]; omega
                  exact AllReadyH.nil
                exact AllReadyH.nil
              exact AllReadyH.nil
            exact AllReadyH.nil
          refine hcons rfl rfl (fun K hK => ?_) ?_
          · clear hHeld
            have hcall := takeCond_ok b _ s4 _ (hS.get 0 rfl) ((hsub _ _ hv).st hS (.inl rfl))
            refine owp_call rfl (by kernel_rfl) (args := #[.pointer (some ⟨b, 0, none⟩)]) rfl hcall ?_
            clear hcall
            rintro e w5 ⟨rfl, v6, hc, hsub2⟩
            replace hS := hS.call1 0 rfl hc
            try simp only [List.cons_append, List.nil_append, List.append_nil, List.set_cons_zero, List.set_cons_succ] at hS
            replace hsub := hsub.trans hsub2
            clear hc hsub2
            refine ⟨_, rfl, ?_⟩
            refine hK.out _ _ trivial (fun hHeld => ?_)
            clear hK K
            simp only [Act.put, List.setIfInBounds_toArray, List.set_cons_succ, List.set_cons_zero]
            refine wpAnyH_ready (rs := [1, 4]) (by kernel_rfl) (by simp) ?_
            refine hcons rfl rfl (fun K hK => ?_) ?_
            · clear hHeld
              refine owp_load1 hS 2 rfl rfl rfl (show (State.cells ⟨ch, r, q0, q1, q2, q3, []⟩ (.slice a5 k c5))[6]? = some (.slice a5 k c5) from rfl) ?_
              refine hK.out _ _ trivial (fun hHeld => ?_)
              clear hK K
              simp only [Act.put, List.setIfInBounds_toArray, List.set_cons_succ, List.set_cons_zero]
              refine wpAnyH_ready (rs := [4]) (by kernel_rfl) (by simp) ?_
              refine hcons rfl rfl (fun K hK => ?_) ?_
              · clear hHeld
                refine owp_bslice1 (vs := (takeCond s4).1.cells) hS rfl rfl Hcl.out (by decide) ?_
                clear hS; intro ge _ hS; try simp only [List.cons_append, List.nil_append, List.append_nil, List.set_cons_zero, List.set_cons_succ] at hS
                refine hK.out _ _ trivial (fun hHeld => ?_)
                clear hK K
                simp only [Act.put, List.setIfInBounds_toArray, List.set_cons_succ, List.set_cons_zero]
                refine wpAnyH_ready (rs := [5]) (by kernel_rfl) (by simp) ?_
                refine hcons rfl rfl (fun K hK => ?_) ?_
                · clear hHeld
                  refine owp_append hS 4 rfl rfl rfl hrow rfl ((RowV.lit 86 36 ge 1 (takeCond s4).1.cells (by rw [Hcl.out]) (by decide)).read (hS.get 5 rfl)) (Cond.one _) h63 hby ?_
                  clear hS hrow
                  intro v7 x7 _ hrow hS _
                  obtain ⟨a7, c7, rfl⟩ := hrow.isSl
                  try simp only [List.cons_append, List.nil_append, List.append_nil, List.set_cons_zero, List.set_cons_succ] at hS
                  refine hK.out _ _ trivial (fun hHeld => ?_)
                  clear hK K
                  simp only [Act.put, List.setIfInBounds_toArray, List.set_cons_succ, List.set_cons_zero]
                  refine htake (i := 6) (v := (.pointer (some ⟨gs, 6, none⟩))) rfl (by kernel_rfl) (by kernel_rfl) (by kernel_rfl) (fun _ _ _ h => h) (Or.inl ⟨by rfl, by (intro w hSw; (try dsimp only at hSw); (try obtain hSw := hSw); go_simp; try with_reducible rfl)⟩) (by assumption) ?_; simp only [Act.put, List.setIfInBounds_toArray, List.set_cons_succ, List.set_cons_zero]
                  refine wpAnyH_ready (rs := [7]) (by kernel_rfl) (by simp) ?_
                  refine hcons rfl rfl (fun K hK => ?_) ?_
                  · clear hHeld
                    refine owp_store1 hS 2 rfl rfl rfl rfl rfl (show 6 < 7 by omega) (show (State.cells ⟨ch, r, q0, q1, q2, q3, []⟩ (.slice a5 k c5)).set 6 (.slice a7 (k + 1) c7) = State.cells ⟨ch, r, q0, q1, q2, q3, []⟩ (.slice a7 (k + 1) c7) from rfl) ?_
                    clear hS; intro _ hS; try simp only [List.cons_append, List.nil_append, List.append_nil, List.set_cons_zero, List.set_cons_succ] at hS
                    refine hK.out _ _ trivial (fun hHeld => ?_)
                    clear hK K
                    simp only [Act.put, List.setIfInBounds_toArray, List.set_cons_succ, List.set_cons_zero]
                    refine wpAnyH_done (by kernel_rfl) ?_ _
                    clear hHeld
                    go_wp2_with fail
                    go_roundw
                    case rel =>
                      refine ⟨k + 1, v6, .slice a7 (k + 1) c7, x7, by omega, by go_num, ?_, ?_, ?_⟩
                      · rw [Hstep.out, condCells_snoc]; exact hrow
                      · rw [Hstep.out]; exact hS.pick [0, 1, 2, 3, 4] rfl (by decide)
                      · rw [Hstep.out]; exact hsub
                    case measure => simp [intOf]; omega
                  exact AllReadyH.nil
                exact AllReadyH.nil
              exact AllReadyH.nil
            refine hcons rfl rfl (fun K hK => ?_) ?_
            · clear hHeld
              refine owp_bslice1 (vs := (takeCond s4).1.cells) hS rfl rfl Hcl.out (by decide) ?_
              clear hS; intro ge _ hS; try simp only [List.cons_append, List.nil_append, List.append_nil, List.set_cons_zero, List.set_cons_succ] at hS
              refine hK.out _ _ trivial (fun hHeld => ?_)
              clear hK K
              simp only [Act.put, List.setIfInBounds_toArray, List.set_cons_succ, List.set_cons_zero]
              refine wpAnyH_ready (rs := [1]) (by kernel_rfl) (by simp) ?_
              refine hcons rfl rfl (fun K hK => ?_) ?_
              · clear hHeld
                refine owp_load1 hS 2 rfl rfl rfl (show (State.cells ⟨ch, r, q0, q1, q2, q3, []⟩ (.slice a5 k c5))[6]? = some (.slice a5 k c5) from rfl) ?_
                refine hK.out _ _ trivial (fun hHeld => ?_)
                clear hK K
                simp only [Act.put, List.setIfInBounds_toArray, List.set_cons_succ, List.set_cons_zero]
                refine wpAnyH_ready (rs := [5]) (by kernel_rfl) (by simp) ?_
                refine hcons rfl rfl (fun K hK => ?_) ?_
                · clear hHeld
                  refine owp_append hS 4 rfl rfl rfl hrow rfl ((RowV.lit 86 36 ge 1 (takeCond s4).1.cells (by rw [Hcl.out]) (by decide)).read (hS.get 5 rfl)) (Cond.one _) h63 hby ?_
                  clear hS hrow
                  intro v7 x7 _ hrow hS _
                  obtain ⟨a7, c7, rfl⟩ := hrow.isSl
                  try simp only [List.cons_append, List.nil_append, List.append_nil, List.set_cons_zero, List.set_cons_succ] at hS
                  refine hK.out _ _ trivial (fun hHeld => ?_)
                  clear hK K
                  simp only [Act.put, List.setIfInBounds_toArray, List.set_cons_succ, List.set_cons_zero]
                  refine htake (i := 6) (v := (.pointer (some ⟨gs, 6, none⟩))) rfl (by kernel_rfl) (by kernel_rfl) (by kernel_rfl) (fun _ _ _ h => h) (Or.inl ⟨by rfl, by (intro w hSw; (try dsimp only at hSw); (try obtain hSw := hSw); go_simp; try with_reducible rfl)⟩) (by assumption) ?_; simp only [Act.put, List.setIfInBounds_toArray, List.set_cons_succ, List.set_cons_zero]
                  refine wpAnyH_ready (rs := [7]) (by kernel_rfl) (by simp) ?_
                  refine hcons rfl rfl (fun K hK => ?_) ?_
                  · clear hHeld
                    refine owp_store1 hS 2 rfl rfl rfl rfl rfl (show 6 < 7 by omega) (show (State.cells ⟨ch, r, q0, q1, q2, q3, []⟩ (.slice a5 k c5)).set 6 (.slice a7 (k + 1) c7) = State.cells ⟨ch, r, q0, q1, q2, q3, []⟩ (.slice a7 (k + 1) c7) from rfl) ?_
                    clear hS; intro _ hS; try simp only [List.cons_append, List.nil_append, List.append_nil, List.set_cons_zero, List.set_cons_succ] at hS
                    refine hK.out _ _ trivial (fun hHeld => ?_)
                    clear hK K
                    simp only [Act.put, List.setIfInBounds_toArray, List.set_cons_succ, List.set_cons_zero]
                    refine wpAnyH_done (by kernel_rfl) ?_ _
                    clear hHeld
                    go_wp2_with fail
                    go_roundw
                    case rel =>
                      refine ⟨k + 1, v6, .slice a7 (k + 1) c7, x7, by omega, by go_num, ?_, ?_, ?_⟩
                      · rw [Hstep.out, condCells_snoc]; exact hrow
                      · rw [Hstep.out]; exact hS.pick [0, 1, 2, 3, 4] rfl (by decide)
                      · rw [Hstep.out]; exact hsub
                    case measure => simp [intOf]; omega
                  exact AllReadyH.nil
                exact AllReadyH.nil
              exact AllReadyH.nil
            exact AllReadyH.nil
          exact AllReadyH.nil
        · have hkn : k = n := by omega
          subst hkn
          have Hlen := Lib.hid (times_len takeCond k s3)
          generalize (times takeCond k s3).1 = l at *
          generalize (times takeCond k s3).2 = s4 at *
          go_wp2_with fail
          refine (bad_ok b _ _ _ (hS.get 0 rfl)).mono ?_
          rintro e w1 ⟨rfl, rfl⟩
          by_cases hbad : s4.bad = 0
          · have hb1 : (s4.bad != 0) = false := by simpa using hbad
            have Hbad := Lib.hid hbad
            clear hbad
            go_wp2_with (first | ((with_reducible show wpList _ _ _ (Oper.mk _ (Op.load _ _) _ _ _ _ :: _) _ _); refine wpl rfl ?_; refine (owp_loadW hS 2 rfl rfl rfl (by rfl) ?_)) | ((with_reducible show wpList _ _ _ (Oper.mk _ (Op.store _ _ _) _ _ _ _ :: _) _ _); refine wpl rfl ?_; refine (owp_storeW hS 1 rfl rfl rfl rfl (by rfl) (by rfl) ((by intro x hx; simp [State.cells] at hx; rcases hx with rfl | rfl | rfl | rfl | rfl | rfl | rfl <;> rfl)) ?_); clear hS; intro _ hS; try simp only [List.cons_append, List.nil_append, List.append_nil, List.set_cons_zero, List.set_cons_succ] at hS))
            (try simp only [Exit.inBlock, Exit.then]); refine bodyPost_ret (res_cell rfl rfl hS 1 rfl (by rfl)) rfl ?_
            refine ⟨.slice a5 k c5, v5, x, ?_, ?_, ?_, ?_⟩
            · rw [Htk.out, if_neg (by simpa using Hbad.out)]; rfl
            · rw [Htk.out]; exact hS.pick [0, 4] rfl (by decide)
            · rw [Htk.out]; exact hsub
            · rw [Htk.out, if_neg (by simpa using Hbad.out), Hlen.out]; exact hrow
          · have hb1 : (s4.bad != 0) = true := by simpa using hbad
            have Hbad := Lib.hid hbad
            clear hbad
            go_wp2_with (first | ((with_reducible show wpList _ _ _ (Oper.mk _ (Op.build _ _) _ _ _ _ :: _) _ _); refine wpl rfl ?_; refine owp_build rfl [] rfl (build_state0 _) ?_) | ((with_reducible show wpList _ _ _ (Oper.mk _ (Op.store _ _ _) _ _ _ _ :: _) _ _); refine wpl rfl ?_; refine (owp_storeW hS 1 rfl rfl rfl rfl (by rfl) (by rfl) ((by intro x hx; simp [State.cells] at hx; rcases hx with rfl | rfl | rfl | rfl | rfl | rfl | rfl <;> rfl)) ?_); clear hS; intro _ hS; try simp only [List.cons_append, List.nil_append, List.append_nil, List.set_cons_zero, List.set_cons_succ] at hS))
            (try simp only [Exit.inBlock, Exit.then]); refine bodyPost_ret (res_cell rfl rfl hS 1 rfl (by rfl)) rfl ?_
            refine ⟨.slice none 0 0, v5, none, ?_, ?_, ?_, ?_⟩
            · rw [Htk.out, if_pos (by simpa using Hbad.out)]
            · rw [Htk.out]; exact (hS.pick [0] rfl (by decide)).addNone
            · rw [Htk.out]; exact hsub
            · rw [Htk.out, if_pos (by simpa using Hbad.out)]; exact RowV.nil _ _

end Go.Proofs.Ytldmkafobbemjaa
