/-
  A state laid to bytes by the program.
-/
import Derived.Test.YtldmkafobbemjaaB8
import Derived.Test.YtldmkafobbemjaaB9
namespace Go.Proofs.Ytldmkafobbemjaa
set_option linter.unusedSimpArgs false
set_option linter.unusedVariables false
open Go Go.RowKit
set_option maxRecDepth 100000
set_option maxHeartbeats 4000000

section
variable {P : Program} {ops : Array Oper} {Q : Exit → Act → World → Prop} {K : Act → World → Prop} {a : Act} {w : World} {rest : List Oper} {o : Oper}
variable {w0 : World} {A : List Nat} {L : List Ent} (hS : St w0 A w L)
include hS
/-- A slice literal of five one-cell elements. -/
theorem owp_bslice5 {T e : TypeId} {x y z t p : Operand} (ho : o.op = .buildSlice T 5 #[(0, x), (1, y), (2, z), (3, t), (4, p)]) {bytes : Nat} [hT : SliceOK P T e 1 bytes] {q : Value} [hz : ZeroOK P e [q]]
    {u v r s m : Value} (hx : a.eval x = u) (hy : a.eval y = v) (hzz : a.eval z = r) (ht : a.eval t = s) (hp : a.eval p = m) (hu : u.oneCell' = true) (hv : v.oneCell' = true) (hr : r.oneCell' = true) (hs : s.oneCell' = true) (hm : m.oneCell' = true)
    (hk : ∀ g w1, St w0 A w1 (L ++ [some (g, [u, v, r, s, m], e)]) → K (a.put o.dst (.slice (some ⟨g, 0, none⟩) 5 5)) w1) : o.wp P a w K Q := by
  refine owp_bslice hS (cs := [u, v, r, s, m]) (zs := [q]) ho (hT := hT) (by omega) (.inr hz) ?_ hk
  have e1 : (Array.range (5 * 1)).map ([q].toArray[· % [q].toArray.size]!) = [q, q, q, q, q].toArray := by
    apply Array.ext
    · simp
    · intro i h1 h2
      simp at h1 h2
      rcases i with _ | _ | _ | _ | _ | i
      · simp
      · simp
      · simp
      · simp
      · simp
      · omega
  rw [e1]
  have hcu : u.cells = [u].toArray := by cases u <;> first | rfl | cases hu
  have hcv : v.cells = [v].toArray := by cases v <;> first | rfl | cases hv
  have hcr : r.cells = [r].toArray := by cases r <;> first | rfl | cases hr
  have hcs : s.cells = [s].toArray := by cases s <;> first | rfl | cases hs
  have hcm : m.cells = [m].toArray := by cases m <;> first | rfl | cases hm
  have h1 := fill_part (fun i => some (i * 1, 1)) [q, q, q, q, q] 0 u [(1, v), (2, r), (3, s), (4, m)] 0 1 (by simp) [u] hcu rfl (by simp)
  have h2 := fill_part (fun i => some (i * 1, 1)) [u, q, q, q, q] 1 v [(2, r), (3, s), (4, m)] 1 1 (by simp) [v] hcv rfl (by simp)
  have h3 := fill_part (fun i => some (i * 1, 1)) [u, v, q, q, q] 2 r [(3, s), (4, m)] 2 1 (by simp) [r] hcr rfl (by simp)
  have h4 := fill_part (fun i => some (i * 1, 1)) [u, v, r, q, q] 3 s [(4, m)] 3 1 (by simp) [s] hcs rfl (by simp)
  have h5 := fill_part (fun i => some (i * 1, 1)) [u, v, r, s, q] 4 m [] 4 1 (by simp) [m] hcm rfl (by simp)
  simp only [List.map_toArray, List.map_cons, List.map_nil, hx, hy, hzz, ht, hp]
  rw [h1]
  show Instr.fill (fun i => some (i * 1, 1)) [u, q, q, q, q].toArray [(1, v), (2, r), (3, s), (4, m)] = _
  rw [h2]
  show Instr.fill (fun i => some (i * 1, 1)) [u, v, q, q, q].toArray [(2, r), (3, s), (4, m)] = _
  rw [h3]
  show Instr.fill (fun i => some (i * 1, 1)) [u, v, r, q, q].toArray [(3, s), (4, m)] = _
  rw [h4]
  show Instr.fill (fun i => some (i * 1, 1)) [u, v, r, s, q].toArray [(4, m)] = _
  rw [h5]
  simp [Instr.fill]
end

def layStateHead (s : State) : List UInt8 := (enc 4 s.channel ++ eights [s.round, s.m0, s.m1, s.t0, s.t1]) ++ [UInt8.ofNat s.conds.length]
theorem layStateHead_len (s : State) : (layStateHead s).length = 45 := by simp [layStateHead, eights, enc_length]
theorem layConds_len : ∀ (l : List Cond), (∀ c, c ∈ l → c.hash.length = 32) → (l.flatMap layCond).length = 57 * l.length
  | [], _ => rfl
  | c :: l, h => by
    rw [List.flatMap_cons, List.length_append, layCond_length c (h c (by simp)), layConds_len l (fun c hc => h c (by simp [hc])), List.length_cons]; omega

theorem layState_ok (s : State) (hs : s.Ok) (cv : Value) (x : Ent) (v : Value) (l : List UInt8) (w : World) (hb : Holds w x) (hv : RowV 5 1 v l.length (bs l) x)
    (hc : RowR w 36 cv s.conds.length (condCells s.conds)) (hd : Far w (keys [x]) cv) (hn : s.conds.length ≤ 255) (hl : l.length ≤ 1000) :
    Calls Try.prog 32 #[v, .agg (s.cells cv).toArray] w (OPost w x (l ++ layState s)) := by
  have hS := St.start w [x] (fun y hy => by simp at hy; subst hy; exact hb) (by cases x <;> simp [keys])
  obtain ⟨a0, c0, rfl⟩ := hv.isSl
  obtain ⟨a1, c1, rfl⟩ := hc.isSl
  have Hc := Lib.hid hc
  have Hv := Lib.hid hv
  have Hok := Lib.hid hs.conds
  have H4 := Lib.hid (show ∀ n, n ∈ [s.channel] → n < 2 ^ 32 by intro n hn; simp only [List.mem_singleton] at hn; subst hn; exact hs.channel)
  have H8 := Lib.hid (show ∀ n, n ∈ [s.round, s.m0, s.m1, s.t0, s.t1] → n < 2 ^ 64 by
    intro n hn
    simp only [List.mem_cons, List.not_mem_nil, or_false] at hn
    rcases hn with rfl | rfl | rfl | rfl | rfl
    · exact hs.round
    · exact hs.m0
    · exact hs.m1
    · exact hs.t0
    · exact hs.t1)
  have Hb := Lib.hid (B_small s.conds.length (by omega))
  have hwi : IntKind.u8.wrap (s.conds.length : Int) = s.conds.length := by rw [IntKind.wrap_u8]; omega
  have hwm : (s.conds.length : Int) % 256 = s.conds.length := by omega
  have Hl1 := Lib.hid (show (l ++ enc 4 s.channel).length = l.length + 4 by rw [List.length_append, enc_length])
  have Hl2 := Lib.hid (show (l ++ enc 4 s.channel ++ eights [s.round, s.m0, s.m1, s.t0, s.t1]).length = l.length + 44 by simp [eights, enc_length])
  have Hl3 := Lib.hid (show (l ++ enc 4 s.channel ++ eights [s.round, s.m0, s.m1, s.t0, s.t1] ++ [UInt8.ofNat s.conds.length]).length = l.length + 45 by simp [eights, enc_length])
  have Hfin := Lib.hid (show l ++ enc 4 s.channel ++ eights [s.round, s.m0, s.m1, s.t0, s.t1] ++ [UInt8.ofNat s.conds.length] = l ++ layStateHead s by simp [layStateHead, List.append_assoc])
  have Hall := Lib.hid (show l ++ layState s = l ++ layStateHead s ++ s.conds.flatMap layCond by simp [layState, layStateHead, List.append_assoc])
  have Hhl := Lib.hid (show (l ++ layStateHead s).length = l.length + 45 by rw [List.length_append, layStateHead_len])
  have Hhash := Lib.hid (show ∀ c, c ∈ s.conds → c.hash.length = 32 from fun c hcm => (hs.conds c hcm).hash)
  have G6 := Lib.hid (show (s.cells (.slice a1 s.conds.length c1))[6]? = some (.slice a1 s.conds.length c1) from rfl)
  have G0 := Lib.hid (show (s.cells (.slice a1 s.conds.length c1))[0]? = some (.int .u32 s.channel) from rfl)
  have G1 := Lib.hid (show (s.cells (.slice a1 s.conds.length c1))[1]? = some (.int .u64 s.round) from rfl)
  have G2 := Lib.hid (show (s.cells (.slice a1 s.conds.length c1))[2]? = some (.int .u64 s.m0) from rfl)
  have G3 := Lib.hid (show (s.cells (.slice a1 s.conds.length c1))[3]? = some (.int .u64 s.m1) from rfl)
  have G4 := Lib.hid (show (s.cells (.slice a1 s.conds.length c1))[4]? = some (.int .u64 s.t0) from rfl)
  have G5 := Lib.hid (show (s.cells (.slice a1 s.conds.length c1))[5]? = some (.int .u64 s.t1) from rfl)
  clear hc hv hs
  generalize s.cells (.slice a1 s.conds.length c1) = cs at *
  go_enter Try.func32, Try.ntmps32
  go_upto_region 1 with (first
    | ((with_reducible show wpList _ _ _ (Oper.mk _ (Op.box _ _) _ _ _ _ :: _) _ _); refine wpl rfl ?_; refine owp_box hS rfl (vs := cs) rfl ?_; clear hS; intro gs _ hS; try simp only [List.cons_append, List.nil_append, List.append_nil, List.set_cons_zero, List.set_cons_succ] at hS))
  try simp only [Act.put, List.setIfInBounds_toArray, List.set_cons_succ, List.set_cons_zero]
  go_cut [0] (fun o wr => ∃ x', RowV 5 1 o (l ++ layStateHead s).length (bs (l ++ layStateHead s)) x' ∧ St w (keys [x]) wr [x', some (gs, cs, 31)])
  case first =>
    replace hS := hS.drew
    refine wp_region_held_drew (S := (fun w' => w'.cell? ⟨gs, 0, none⟩ = some (.int .u32 s.channel) ∧ w'.cell? ⟨gs, 1, none⟩ = some (.int .u64 s.round) ∧ w'.cell? ⟨gs, 2, none⟩ = some (.int .u64 s.m0) ∧ w'.cell? ⟨gs, 3, none⟩ = some (.int .u64 s.m1) ∧ w'.cell? ⟨gs, 4, none⟩ = some (.int .u64 s.t0) ∧ w'.cell? ⟨gs, 5, none⟩ = some (.int .u64 s.t1) ∧ w'.cell? ⟨gs, 6, none⟩ = some (.slice a1 s.conds.length c1))) (by kernel_rfl) ⟨(hS.get 1 rfl).cell 0 G0.out, (hS.get 1 rfl).cell 1 G1.out, (hS.get 1 rfl).cell 2 G2.out, (hS.get 1 rfl).cell 3 G3.out, (hS.get 1 rfl).cell 4 G4.out, (hS.get 1 rfl).cell 5 G5.out, (hS.get 1 rfl).cell 6 G6.out⟩ (fun hHeld => ?_)
    refine htake (i := 0) (v := (.slice a0 l.length c0)) rfl (by kernel_rfl) (by kernel_rfl) (by kernel_rfl) (fun _ _ _ h => h) (Or.inl ⟨by rfl, by (intro w hSw; (try dsimp only at hSw); (try obtain ⟨h0, h1, h2, h3, h4, h5, h6⟩ := hSw); go_simp; try with_reducible rfl)⟩) (by assumption) ?_; simp only [Act.put, List.setIfInBounds_toArray, List.set_cons_succ, List.set_cons_zero]
    refine htake (i := 1) (v := (.pointer (some ⟨gs, 0, none⟩))) rfl (by kernel_rfl) (by kernel_rfl) (by kernel_rfl) (fun _ _ _ h => h) (Or.inl ⟨by rfl, by (intro w hSw; (try dsimp only at hSw); (try obtain ⟨h0, h1, h2, h3, h4, h5, h6⟩ := hSw); go_simp; try with_reducible rfl)⟩) (by assumption) ?_; simp only [Act.put, List.setIfInBounds_toArray, List.set_cons_succ, List.set_cons_zero]
    refine htake (i := 2) (v := (.int .u32 s.channel)) rfl (by kernel_rfl) (by kernel_rfl) (by kernel_rfl) (fun _ _ _ h => h) (Or.inl ⟨by rfl, by (intro w hSw; (try dsimp only at hSw); (try obtain ⟨h0, h1, h2, h3, h4, h5, h6⟩ := hSw); go_simp; try with_reducible rfl)⟩) (by assumption) ?_; simp only [Act.put, List.setIfInBounds_toArray, List.set_cons_succ, List.set_cons_zero]
    refine htake (i := 5) (v := (.pointer (some ⟨gs, 1, none⟩))) rfl (by kernel_rfl) (by kernel_rfl) (by kernel_rfl) (fun _ _ _ h => h) (Or.inl ⟨by rfl, by (intro w hSw; (try dsimp only at hSw); (try obtain ⟨h0, h1, h2, h3, h4, h5, h6⟩ := hSw); go_simp; try with_reducible rfl)⟩) (by assumption) ?_; simp only [Act.put, List.setIfInBounds_toArray, List.set_cons_succ, List.set_cons_zero]
    refine htake (i := 6) (v := (.int .u64 s.round)) rfl (by kernel_rfl) (by kernel_rfl) (by kernel_rfl) (fun _ _ _ h => h) (Or.inl ⟨by rfl, by (intro w hSw; (try dsimp only at hSw); (try obtain ⟨h0, h1, h2, h3, h4, h5, h6⟩ := hSw); go_simp; try with_reducible rfl)⟩) (by assumption) ?_; simp only [Act.put, List.setIfInBounds_toArray, List.set_cons_succ, List.set_cons_zero]
    refine htake (i := 7) (v := (.pointer (some ⟨gs, 2, none⟩))) rfl (by kernel_rfl) (by kernel_rfl) (by kernel_rfl) (fun _ _ _ h => h) (Or.inl ⟨by rfl, by (intro w hSw; (try dsimp only at hSw); (try obtain ⟨h0, h1, h2, h3, h4, h5, h6⟩ := hSw); go_simp; try with_reducible rfl)⟩) (by assumption) ?_; simp only [Act.put, List.setIfInBounds_toArray, List.set_cons_succ, List.set_cons_zero]
    refine htake (i := 8) (v := (.pointer (some ⟨gs, 2, none⟩))) rfl (by kernel_rfl) (by kernel_rfl) (by kernel_rfl) (fun _ _ _ h => h) (Or.inl ⟨by rfl, by (intro w hSw; (try dsimp only at hSw); (try obtain ⟨h0, h1, h2, h3, h4, h5, h6⟩ := hSw); go_simp; try with_reducible rfl)⟩) (by assumption) ?_; simp only [Act.put, List.setIfInBounds_toArray, List.set_cons_succ, List.set_cons_zero]
    refine htake (i := 9) (v := (.int .u64 s.m0)) rfl (by kernel_rfl) (by kernel_rfl) (by kernel_rfl) (fun _ _ _ h => h) (Or.inl ⟨by rfl, by (intro w hSw; (try dsimp only at hSw); (try obtain ⟨h0, h1, h2, h3, h4, h5, h6⟩ := hSw); go_simp; try with_reducible rfl)⟩) (by assumption) ?_; simp only [Act.put, List.setIfInBounds_toArray, List.set_cons_succ, List.set_cons_zero]
    refine htake (i := 10) (v := (.pointer (some ⟨gs, 2, none⟩))) rfl (by kernel_rfl) (by kernel_rfl) (by kernel_rfl) (fun _ _ _ h => h) (Or.inl ⟨by rfl, by (intro w hSw; (try dsimp only at hSw); (try obtain ⟨h0, h1, h2, h3, h4, h5, h6⟩ := hSw); go_simp; try with_reducible rfl)⟩) (by assumption) ?_; simp only [Act.put, List.setIfInBounds_toArray, List.set_cons_succ, List.set_cons_zero]
    refine htake (i := 11) (v := (.pointer (some ⟨gs, 3, none⟩))) rfl (by kernel_rfl) (by kernel_rfl) (by kernel_rfl) (fun _ _ _ h => h) (Or.inl ⟨by rfl, by (intro w hSw; (try dsimp only at hSw); (try obtain ⟨h0, h1, h2, h3, h4, h5, h6⟩ := hSw); go_simp; try with_reducible rfl)⟩) (by assumption) ?_; simp only [Act.put, List.setIfInBounds_toArray, List.set_cons_succ, List.set_cons_zero]
    refine htake (i := 12) (v := (.int .u64 s.m1)) rfl (by kernel_rfl) (by kernel_rfl) (by kernel_rfl) (fun _ _ _ h => h) (Or.inl ⟨by rfl, by (intro w hSw; (try dsimp only at hSw); (try obtain ⟨h0, h1, h2, h3, h4, h5, h6⟩ := hSw); go_simp; try with_reducible rfl)⟩) (by assumption) ?_; simp only [Act.put, List.setIfInBounds_toArray, List.set_cons_succ, List.set_cons_zero]
    refine htake (i := 13) (v := (.pointer (some ⟨gs, 4, none⟩))) rfl (by kernel_rfl) (by kernel_rfl) (by kernel_rfl) (fun _ _ _ h => h) (Or.inl ⟨by rfl, by (intro w hSw; (try dsimp only at hSw); (try obtain ⟨h0, h1, h2, h3, h4, h5, h6⟩ := hSw); go_simp; try with_reducible rfl)⟩) (by assumption) ?_; simp only [Act.put, List.setIfInBounds_toArray, List.set_cons_succ, List.set_cons_zero]
    refine htake (i := 14) (v := (.pointer (some ⟨gs, 4, none⟩))) rfl (by kernel_rfl) (by kernel_rfl) (by kernel_rfl) (fun _ _ _ h => h) (Or.inl ⟨by rfl, by (intro w hSw; (try dsimp only at hSw); (try obtain ⟨h0, h1, h2, h3, h4, h5, h6⟩ := hSw); go_simp; try with_reducible rfl)⟩) (by assumption) ?_; simp only [Act.put, List.setIfInBounds_toArray, List.set_cons_succ, List.set_cons_zero]
    refine htake (i := 15) (v := (.int .u64 s.t0)) rfl (by kernel_rfl) (by kernel_rfl) (by kernel_rfl) (fun _ _ _ h => h) (Or.inl ⟨by rfl, by (intro w hSw; (try dsimp only at hSw); (try obtain ⟨h0, h1, h2, h3, h4, h5, h6⟩ := hSw); go_simp; try with_reducible rfl)⟩) (by assumption) ?_; simp only [Act.put, List.setIfInBounds_toArray, List.set_cons_succ, List.set_cons_zero]
    refine htake (i := 16) (v := (.pointer (some ⟨gs, 4, none⟩))) rfl (by kernel_rfl) (by kernel_rfl) (by kernel_rfl) (fun _ _ _ h => h) (Or.inl ⟨by rfl, by (intro w hSw; (try dsimp only at hSw); (try obtain ⟨h0, h1, h2, h3, h4, h5, h6⟩ := hSw); go_simp; try with_reducible rfl)⟩) (by assumption) ?_; simp only [Act.put, List.setIfInBounds_toArray, List.set_cons_succ, List.set_cons_zero]
    refine htake (i := 17) (v := (.pointer (some ⟨gs, 5, none⟩))) rfl (by kernel_rfl) (by kernel_rfl) (by kernel_rfl) (fun _ _ _ h => h) (Or.inl ⟨by rfl, by (intro w hSw; (try dsimp only at hSw); (try obtain ⟨h0, h1, h2, h3, h4, h5, h6⟩ := hSw); go_simp; try with_reducible rfl)⟩) (by assumption) ?_; simp only [Act.put, List.setIfInBounds_toArray, List.set_cons_succ, List.set_cons_zero]
    refine htake (i := 18) (v := (.int .u64 s.t1)) rfl (by kernel_rfl) (by kernel_rfl) (by kernel_rfl) (fun _ _ _ h => h) (Or.inl ⟨by rfl, by (intro w hSw; (try dsimp only at hSw); (try obtain ⟨h0, h1, h2, h3, h4, h5, h6⟩ := hSw); go_simp; try with_reducible rfl)⟩) (by assumption) ?_; simp only [Act.put, List.setIfInBounds_toArray, List.set_cons_succ, List.set_cons_zero]
    refine htake (i := 21) (v := (.pointer (some ⟨gs, 6, none⟩))) rfl (by kernel_rfl) (by kernel_rfl) (by kernel_rfl) (fun _ _ _ h => h) (Or.inl ⟨by rfl, by (intro w hSw; (try dsimp only at hSw); (try obtain ⟨h0, h1, h2, h3, h4, h5, h6⟩ := hSw); go_simp; try with_reducible rfl)⟩) (by assumption) ?_; simp only [Act.put, List.setIfInBounds_toArray, List.set_cons_succ, List.set_cons_zero]
    refine htake (i := 22) (v := (.slice a1 s.conds.length c1)) rfl (by kernel_rfl) (by kernel_rfl) (by kernel_rfl) (fun _ _ _ h => h) (Or.inl ⟨by rfl, by (intro w hSw; (try dsimp only at hSw); (try obtain ⟨h0, h1, h2, h3, h4, h5, h6⟩ := hSw); go_simp; try with_reducible rfl)⟩) (by assumption) ?_; simp only [Act.put, List.setIfInBounds_toArray, List.set_cons_succ, List.set_cons_zero]
    refine htake (i := 23) (v := (.int .i64 s.conds.length)) rfl (by kernel_rfl) (by kernel_rfl) (by kernel_rfl) (fun _ _ _ h => h) (Or.inl ⟨by rfl, by (intro w hSw; (try dsimp only at hSw); (try obtain ⟨h0, h1, h2, h3, h4, h5, h6⟩ := hSw); go_simp; try with_reducible rfl)⟩) (by assumption) ?_; simp only [Act.put, List.setIfInBounds_toArray, List.set_cons_succ, List.set_cons_zero]
    refine htake (i := 24) (v := (.int .u8 s.conds.length)) rfl (by kernel_rfl) (by kernel_rfl) (by kernel_rfl) (fun _ _ _ h => h) (Or.inl ⟨by rfl, by (intro w hSw; (try dsimp only at hSw); (try obtain ⟨h0, h1, h2, h3, h4, h5, h6⟩ := hSw); go_simp; try with_reducible rfl)⟩) (by assumption) ?_; simp only [Act.put, List.setIfInBounds_toArray, List.set_cons_succ, List.set_cons_zero]
    refine wpAnyH_ready (rs := [3, 19, 25]) (by kernel_rfl) (by simp) ?_
    refine hcons rfl rfl (fun K hK => ?_) ?_
    · clear hHeld
      refine owp_bslice1 (vs := [.int .u32 _]) hS rfl rfl (by rfl) (by decide) ?_
      clear hS; intro gk _ hS; try simp only [List.cons_append, List.nil_append, List.append_nil, List.set_cons_zero, List.set_cons_succ] at hS
      refine hK.out _ _ ⟨(hS.get 1 rfl).cell 0 G0.out, (hS.get 1 rfl).cell 1 G1.out, (hS.get 1 rfl).cell 2 G2.out, (hS.get 1 rfl).cell 3 G3.out, (hS.get 1 rfl).cell 4 G4.out, (hS.get 1 rfl).cell 5 G5.out, (hS.get 1 rfl).cell 6 G6.out⟩ (fun hHeld => ?_)
      clear hK K
      simp only [Act.put, List.setIfInBounds_toArray, List.set_cons_succ, List.set_cons_zero]
      refine wpAnyH_ready (rs := [4, 19, 25]) (by kernel_rfl) (by simp) ?_
      refine hcons rfl rfl (fun K hK => ?_) ?_
      · clear hHeld
        have hcall := ofour_ok x (.slice a0 l.length c0) l (.slice (some ⟨gk, 0, none⟩) 1 1) [s.channel] _ (hS.get 0 rfl) Hv.out ((RowV.lit 26 1 gk 1 [.int .u32 s.channel] rfl (by decide)).read (hS.get 2 rfl)) (hS.apart 0 2 rfl rfl (by decide)) H4.out (by omega) (by simp)
        refine owp_call rfl (by kernel_rfl) (args := #[.slice a0 l.length c0, .slice (some ⟨gk, 0, none⟩) 1 1]) rfl hcall ?_
        clear hcall
        rintro e w5 ⟨v5, x5, rfl, hrow5, hc⟩
        rw [fours_one, Hl1.out] at hrow5
        replace hS := hS.call1 (N := []) 0 rfl hc
        try simp only [List.cons_append, List.nil_append, List.append_nil, List.set_cons_zero, List.set_cons_succ] at hS
        clear hc
        obtain ⟨a5, c5, rfl⟩ := hrow5.isSl
        refine ⟨_, rfl, ?_⟩
        refine hK.out _ _ ⟨(hS.get 1 rfl).cell 0 G0.out, (hS.get 1 rfl).cell 1 G1.out, (hS.get 1 rfl).cell 2 G2.out, (hS.get 1 rfl).cell 3 G3.out, (hS.get 1 rfl).cell 4 G4.out, (hS.get 1 rfl).cell 5 G5.out, (hS.get 1 rfl).cell 6 G6.out⟩ (fun hHeld => ?_)
        clear hK K
        simp only [Act.put, List.setIfInBounds_toArray, List.set_cons_succ, List.set_cons_zero]
        refine wpAnyH_ready (rs := [19, 25]) (by kernel_rfl) (by simp) ?_
        refine hcons rfl rfl (fun K hK => ?_) ?_
        · clear hHeld
          refine owp_bslice5 hS rfl rfl rfl rfl rfl rfl rfl rfl rfl rfl rfl ?_
          clear hS; intro gm _ hS; try simp only [List.cons_append, List.nil_append, List.append_nil, List.set_cons_zero, List.set_cons_succ] at hS
          refine hK.out _ _ ⟨(hS.get 1 rfl).cell 0 G0.out, (hS.get 1 rfl).cell 1 G1.out, (hS.get 1 rfl).cell 2 G2.out, (hS.get 1 rfl).cell 3 G3.out, (hS.get 1 rfl).cell 4 G4.out, (hS.get 1 rfl).cell 5 G5.out, (hS.get 1 rfl).cell 6 G6.out⟩ (fun hHeld => ?_)
          clear hK K
          simp only [Act.put, List.setIfInBounds_toArray, List.set_cons_succ, List.set_cons_zero]
          refine wpAnyH_ready (rs := [20, 25]) (by kernel_rfl) (by simp) ?_
          refine hcons rfl rfl (fun K hK => ?_) ?_
          · clear hHeld
            have hcall := oeight_ok x5 (.slice a5 (l.length + 4) c5) (l ++ enc 4 s.channel) (.slice (some ⟨gm, 0, none⟩) 5 5) [s.round, s.m0, s.m1, s.t0, s.t1] _ (hS.get 0 rfl) (by rw [Hl1.out]; exact hrow5) ((RowV.lit 27 1 gm 5 [.int .u64 s.round, .int .u64 s.m0, .int .u64 s.m1, .int .u64 s.t0, .int .u64 s.t1] rfl (by decide)).read (hS.get 3 rfl)) (hS.apart 0 3 rfl rfl (by decide)) H8.out (by rw [Hl1.out]; omega) (by simp)
            refine owp_call rfl (by kernel_rfl) (args := #[.slice a5 (l.length + 4) c5, .slice (some ⟨gm, 0, none⟩) 5 5]) rfl hcall ?_
            clear hcall
            rintro e w6 ⟨v6, x6, rfl, hrow6, hc⟩
            rw [Hl2.out] at hrow6
            replace hS := hS.call1 (N := []) 0 rfl hc
            try simp only [List.cons_append, List.nil_append, List.append_nil, List.set_cons_zero, List.set_cons_succ] at hS
            clear hc
            obtain ⟨a6, c6, rfl⟩ := hrow6.isSl
            refine ⟨_, rfl, ?_⟩
            refine hK.out _ _ ⟨(hS.get 1 rfl).cell 0 G0.out, (hS.get 1 rfl).cell 1 G1.out, (hS.get 1 rfl).cell 2 G2.out, (hS.get 1 rfl).cell 3 G3.out, (hS.get 1 rfl).cell 4 G4.out, (hS.get 1 rfl).cell 5 G5.out, (hS.get 1 rfl).cell 6 G6.out⟩ (fun hHeld => ?_)
            clear hK K
            simp only [Act.put, List.setIfInBounds_toArray, List.set_cons_succ, List.set_cons_zero]
            refine wpAnyH_ready (rs := [25]) (by kernel_rfl) (by simp) ?_
            refine hcons rfl rfl (fun K hK => ?_) ?_
            · clear hHeld
              refine owp_bslice1 (vs := [.int .u8 _]) hS rfl rfl (by rfl) (by decide) ?_
              clear hS; intro gn _ hS; try simp only [List.cons_append, List.nil_append, List.append_nil, List.set_cons_zero, List.set_cons_succ] at hS
              refine hK.out _ _ ⟨(hS.get 1 rfl).cell 0 G0.out, (hS.get 1 rfl).cell 1 G1.out, (hS.get 1 rfl).cell 2 G2.out, (hS.get 1 rfl).cell 3 G3.out, (hS.get 1 rfl).cell 4 G4.out, (hS.get 1 rfl).cell 5 G5.out, (hS.get 1 rfl).cell 6 G6.out⟩ (fun hHeld => ?_)
              clear hK K
              simp only [Act.put, List.setIfInBounds_toArray, List.set_cons_succ, List.set_cons_zero]
              refine wpAnyH_ready (rs := [26]) (by kernel_rfl) (by simp) ?_
              refine hcons rfl rfl (fun K hK => ?_) ?_
              · clear hHeld
                rw [← Hb.out] at hS
                have hcall := oone_ok x6 (.slice a6 (l.length + 44) c6) (l ++ enc 4 s.channel ++ eights [s.round, s.m0, s.m1, s.t0, s.t1]) (.slice (some ⟨gn, 0, none⟩) 1 1) [UInt8.ofNat s.conds.length] _ (hS.get 0 rfl) (by rw [Hl2.out]; exact hrow6) ((RowV.lit 5 1 gn 1 _ rfl (by decide)).read (hS.get 4 rfl)) (by rw [Hl2.out]; simp; omega)
                refine owp_call rfl (by kernel_rfl) (args := #[.slice a6 (l.length + 44) c6, .slice (some ⟨gn, 0, none⟩) 1 1]) rfl hcall ?_
                clear hcall
                rintro e w7 ⟨v7, x7, rfl, hrow7, hc⟩
                rw [Hfin.out] at hrow7
                replace hS := hS.call1 (N := []) 0 rfl hc
                try simp only [List.cons_append, List.nil_append, List.append_nil, List.set_cons_zero, List.set_cons_succ] at hS
                clear hc
                obtain ⟨a7, c7, rfl⟩ := hrow7.isSl
                refine ⟨_, rfl, ?_⟩
                refine hK.out _ _ ⟨(hS.get 1 rfl).cell 0 G0.out, (hS.get 1 rfl).cell 1 G1.out, (hS.get 1 rfl).cell 2 G2.out, (hS.get 1 rfl).cell 3 G3.out, (hS.get 1 rfl).cell 4 G4.out, (hS.get 1 rfl).cell 5 G5.out, (hS.get 1 rfl).cell 6 G6.out⟩ (fun hHeld => ?_)
                clear hK K
                simp only [Act.put, List.setIfInBounds_toArray, List.set_cons_succ, List.set_cons_zero]
                refine htake (i := 27) (v := (.slice a7 (l ++ layStateHead s).length c7)) rfl (by kernel_rfl) (by kernel_rfl) (by kernel_rfl) (fun _ _ _ h => h) (Or.inl ⟨by rfl, by (intro w hSw; (try dsimp only at hSw); (try obtain ⟨h0, h1, h2, h3, h4, h5, h6⟩ := hSw); go_simp; try with_reducible rfl)⟩) (by assumption) ?_; simp only [Act.put, List.setIfInBounds_toArray, List.set_cons_succ, List.set_cons_zero]
                refine wpAnyH_done (by kernel_rfl) ?_ _
                clear hHeld
                go_wp2_with fail
                go_meet
                exact ⟨x7, hrow7, hS.pick [0, 1] rfl (by decide)⟩
              exact AllReadyH.nil
            exact AllReadyH.nil
          refine hcons rfl rfl (fun K hK => ?_) ?_
          · clear hHeld
            refine owp_bslice1 (vs := [.int .u8 _]) hS rfl rfl (by rfl) (by decide) ?_
            clear hS; intro gn _ hS; try simp only [List.cons_append, List.nil_append, List.append_nil, List.set_cons_zero, List.set_cons_succ] at hS
            refine hK.out _ _ ⟨(hS.get 1 rfl).cell 0 G0.out, (hS.get 1 rfl).cell 1 G1.out, (hS.get 1 rfl).cell 2 G2.out, (hS.get 1 rfl).cell 3 G3.out, (hS.get 1 rfl).cell 4 G4.out, (hS.get 1 rfl).cell 5 G5.out, (hS.get 1 rfl).cell 6 G6.out⟩ (fun hHeld => ?_)
            clear hK K
            simp only [Act.put, List.setIfInBounds_toArray, List.set_cons_succ, List.set_cons_zero]
            refine wpAnyH_ready (rs := [20]) (by kernel_rfl) (by simp) ?_
            refine hcons rfl rfl (fun K hK => ?_) ?_
            · clear hHeld
              have hcall := oeight_ok x5 (.slice a5 (l.length + 4) c5) (l ++ enc 4 s.channel) (.slice (some ⟨gm, 0, none⟩) 5 5) [s.round, s.m0, s.m1, s.t0, s.t1] _ (hS.get 0 rfl) (by rw [Hl1.out]; exact hrow5) ((RowV.lit 27 1 gm 5 [.int .u64 s.round, .int .u64 s.m0, .int .u64 s.m1, .int .u64 s.t0, .int .u64 s.t1] rfl (by decide)).read (hS.get 3 rfl)) (hS.apart 0 3 rfl rfl (by decide)) H8.out (by rw [Hl1.out]; omega) (by simp)
              refine owp_call rfl (by kernel_rfl) (args := #[.slice a5 (l.length + 4) c5, .slice (some ⟨gm, 0, none⟩) 5 5]) rfl hcall ?_
              clear hcall
              rintro e w6 ⟨v6, x6, rfl, hrow6, hc⟩
              rw [Hl2.out] at hrow6
              replace hS := hS.call1 (N := []) 0 rfl hc
              try simp only [List.cons_append, List.nil_append, List.append_nil, List.set_cons_zero, List.set_cons_succ] at hS
              clear hc
              obtain ⟨a6, c6, rfl⟩ := hrow6.isSl
              refine ⟨_, rfl, ?_⟩
              refine hK.out _ _ ⟨(hS.get 1 rfl).cell 0 G0.out, (hS.get 1 rfl).cell 1 G1.out, (hS.get 1 rfl).cell 2 G2.out, (hS.get 1 rfl).cell 3 G3.out, (hS.get 1 rfl).cell 4 G4.out, (hS.get 1 rfl).cell 5 G5.out, (hS.get 1 rfl).cell 6 G6.out⟩ (fun hHeld => ?_)
              clear hK K
              simp only [Act.put, List.setIfInBounds_toArray, List.set_cons_succ, List.set_cons_zero]
              refine wpAnyH_ready (rs := [26]) (by kernel_rfl) (by simp) ?_
              refine hcons rfl rfl (fun K hK => ?_) ?_
              · clear hHeld
                rw [← Hb.out] at hS
                have hcall := oone_ok x6 (.slice a6 (l.length + 44) c6) (l ++ enc 4 s.channel ++ eights [s.round, s.m0, s.m1, s.t0, s.t1]) (.slice (some ⟨gn, 0, none⟩) 1 1) [UInt8.ofNat s.conds.length] _ (hS.get 0 rfl) (by rw [Hl2.out]; exact hrow6) ((RowV.lit 5 1 gn 1 _ rfl (by decide)).read (hS.get 4 rfl)) (by rw [Hl2.out]; simp; omega)
                refine owp_call rfl (by kernel_rfl) (args := #[.slice a6 (l.length + 44) c6, .slice (some ⟨gn, 0, none⟩) 1 1]) rfl hcall ?_
                clear hcall
                rintro e w7 ⟨v7, x7, rfl, hrow7, hc⟩
                rw [Hfin.out] at hrow7
                replace hS := hS.call1 (N := []) 0 rfl hc
                try simp only [List.cons_append, List.nil_append, List.append_nil, List.set_cons_zero, List.set_cons_succ] at hS
                clear hc
                obtain ⟨a7, c7, rfl⟩ := hrow7.isSl
                refine ⟨_, rfl, ?_⟩
                refine hK.out _ _ ⟨(hS.get 1 rfl).cell 0 G0.out, (hS.get 1 rfl).cell 1 G1.out, (hS.get 1 rfl).cell 2 G2.out, (hS.get 1 rfl).cell 3 G3.out, (hS.get 1 rfl).cell 4 G4.out, (hS.get 1 rfl).cell 5 G5.out, (hS.get 1 rfl).cell 6 G6.out⟩ (fun hHeld => ?_)
                clear hK K
                simp only [Act.put, List.setIfInBounds_toArray, List.set_cons_succ, List.set_cons_zero]
                refine htake (i := 27) (v := (.slice a7 (l ++ layStateHead s).length c7)) rfl (by kernel_rfl) (by kernel_rfl) (by kernel_rfl) (fun _ _ _ h => h) (Or.inl ⟨by rfl, by (intro w hSw; (try dsimp only at hSw); (try obtain ⟨h0, h1, h2, h3, h4, h5, h6⟩ := hSw); go_simp; try with_reducible rfl)⟩) (by assumption) ?_; simp only [Act.put, List.setIfInBounds_toArray, List.set_cons_succ, List.set_cons_zero]
                refine wpAnyH_done (by kernel_rfl) ?_ _
                clear hHeld
                go_wp2_with fail
                go_meet
                exact ⟨x7, hrow7, hS.pick [0, 1] rfl (by decide)⟩
              exact AllReadyH.nil
            exact AllReadyH.nil
          exact AllReadyH.nil
        refine hcons rfl rfl (fun K hK => ?_) ?_
        · clear hHeld
          refine owp_bslice1 (vs := [.int .u8 _]) hS rfl rfl (by rfl) (by decide) ?_
          clear hS; intro gn _ hS; try simp only [List.cons_append, List.nil_append, List.append_nil, List.set_cons_zero, List.set_cons_succ] at hS
          refine hK.out _ _ ⟨(hS.get 1 rfl).cell 0 G0.out, (hS.get 1 rfl).cell 1 G1.out, (hS.get 1 rfl).cell 2 G2.out, (hS.get 1 rfl).cell 3 G3.out, (hS.get 1 rfl).cell 4 G4.out, (hS.get 1 rfl).cell 5 G5.out, (hS.get 1 rfl).cell 6 G6.out⟩ (fun hHeld => ?_)
          clear hK K
          simp only [Act.put, List.setIfInBounds_toArray, List.set_cons_succ, List.set_cons_zero]
          refine wpAnyH_ready (rs := [19]) (by kernel_rfl) (by simp) ?_
          refine hcons rfl rfl (fun K hK => ?_) ?_
          · clear hHeld
            refine owp_bslice5 hS rfl rfl rfl rfl rfl rfl rfl rfl rfl rfl rfl ?_
            clear hS; intro gm _ hS; try simp only [List.cons_append, List.nil_append, List.append_nil, List.set_cons_zero, List.set_cons_succ] at hS
            refine hK.out _ _ ⟨(hS.get 1 rfl).cell 0 G0.out, (hS.get 1 rfl).cell 1 G1.out, (hS.get 1 rfl).cell 2 G2.out, (hS.get 1 rfl).cell 3 G3.out, (hS.get 1 rfl).cell 4 G4.out, (hS.get 1 rfl).cell 5 G5.out, (hS.get 1 rfl).cell 6 G6.out⟩ (fun hHeld => ?_)
            clear hK K
            simp only [Act.put, List.setIfInBounds_toArray, List.set_cons_succ, List.set_cons_zero]
            refine wpAnyH_ready (rs := [20]) (by kernel_rfl) (by simp) ?_
            refine hcons rfl rfl (fun K hK => ?_) ?_
            · clear hHeld
              have hcall := oeight_ok x5 (.slice a5 (l.length + 4) c5) (l ++ enc 4 s.channel) (.slice (some ⟨gm, 0, none⟩) 5 5) [s.round, s.m0, s.m1, s.t0, s.t1] _ (hS.get 0 rfl) (by rw [Hl1.out]; exact hrow5) ((RowV.lit 27 1 gm 5 [.int .u64 s.round, .int .u64 s.m0, .int .u64 s.m1, .int .u64 s.t0, .int .u64 s.t1] rfl (by decide)).read (hS.get 4 rfl)) (hS.apart 0 4 rfl rfl (by decide)) H8.out (by rw [Hl1.out]; omega) (by simp)
              refine owp_call rfl (by kernel_rfl) (args := #[.slice a5 (l.length + 4) c5, .slice (some ⟨gm, 0, none⟩) 5 5]) rfl hcall ?_
              clear hcall
              rintro e w6 ⟨v6, x6, rfl, hrow6, hc⟩
              rw [Hl2.out] at hrow6
              replace hS := hS.call1 (N := []) 0 rfl hc
              try simp only [List.cons_append, List.nil_append, List.append_nil, List.set_cons_zero, List.set_cons_succ] at hS
              clear hc
              obtain ⟨a6, c6, rfl⟩ := hrow6.isSl
              refine ⟨_, rfl, ?_⟩
              refine hK.out _ _ ⟨(hS.get 1 rfl).cell 0 G0.out, (hS.get 1 rfl).cell 1 G1.out, (hS.get 1 rfl).cell 2 G2.out, (hS.get 1 rfl).cell 3 G3.out, (hS.get 1 rfl).cell 4 G4.out, (hS.get 1 rfl).cell 5 G5.out, (hS.get 1 rfl).cell 6 G6.out⟩ (fun hHeld => ?_)
              clear hK K
              simp only [Act.put, List.setIfInBounds_toArray, List.set_cons_succ, List.set_cons_zero]
              refine wpAnyH_ready (rs := [26]) (by kernel_rfl) (by simp) ?_
              refine hcons rfl rfl (fun K hK => ?_) ?_
              · clear hHeld
                rw [← Hb.out] at hS
                have hcall := oone_ok x6 (.slice a6 (l.length + 44) c6) (l ++ enc 4 s.channel ++ eights [s.round, s.m0, s.m1, s.t0, s.t1]) (.slice (some ⟨gn, 0, none⟩) 1 1) [UInt8.ofNat s.conds.length] _ (hS.get 0 rfl) (by rw [Hl2.out]; exact hrow6) ((RowV.lit 5 1 gn 1 _ rfl (by decide)).read (hS.get 3 rfl)) (by rw [Hl2.out]; simp; omega)
                refine owp_call rfl (by kernel_rfl) (args := #[.slice a6 (l.length + 44) c6, .slice (some ⟨gn, 0, none⟩) 1 1]) rfl hcall ?_
                clear hcall
                rintro e w7 ⟨v7, x7, rfl, hrow7, hc⟩
                rw [Hfin.out] at hrow7
                replace hS := hS.call1 (N := []) 0 rfl hc
                try simp only [List.cons_append, List.nil_append, List.append_nil, List.set_cons_zero, List.set_cons_succ] at hS
                clear hc
                obtain ⟨a7, c7, rfl⟩ := hrow7.isSl
                refine ⟨_, rfl, ?_⟩
                refine hK.out _ _ ⟨(hS.get 1 rfl).cell 0 G0.out, (hS.get 1 rfl).cell 1 G1.out, (hS.get 1 rfl).cell 2 G2.out, (hS.get 1 rfl).cell 3 G3.out, (hS.get 1 rfl).cell 4 G4.out, (hS.get 1 rfl).cell 5 G5.out, (hS.get 1 rfl).cell 6 G6.out⟩ (fun hHeld => ?_)
                clear hK K
                simp only [Act.put, List.setIfInBounds_toArray, List.set_cons_succ, List.set_cons_zero]
                refine htake (i := 27) (v := (.slice a7 (l ++ layStateHead s).length c7)) rfl (by kernel_rfl) (by kernel_rfl) (by kernel_rfl) (fun _ _ _ h => h) (Or.inl ⟨by rfl, by (intro w hSw; (try dsimp only at hSw); (try obtain ⟨h0, h1, h2, h3, h4, h5, h6⟩ := hSw); go_simp; try with_reducible rfl)⟩) (by assumption) ?_; simp only [Act.put, List.setIfInBounds_toArray, List.set_cons_succ, List.set_cons_zero]
                refine wpAnyH_done (by kernel_rfl) ?_ _
                clear hHeld
                replace hS := hS.pick [0, 1, 2, 4, 3] rfl (by decide)
                go_wp2_with fail
                go_meet
                exact ⟨x7, hrow7, hS.pick [0, 1] rfl (by decide)⟩
              exact AllReadyH.nil
            exact AllReadyH.nil
          exact AllReadyH.nil
        exact AllReadyH.nil
      refine hcons rfl rfl (fun K hK => ?_) ?_
      · clear hHeld
        refine owp_bslice5 hS rfl rfl rfl rfl rfl rfl rfl rfl rfl rfl rfl ?_
        clear hS; intro gm _ hS; try simp only [List.cons_append, List.nil_append, List.append_nil, List.set_cons_zero, List.set_cons_succ] at hS
        refine hK.out _ _ ⟨(hS.get 1 rfl).cell 0 G0.out, (hS.get 1 rfl).cell 1 G1.out, (hS.get 1 rfl).cell 2 G2.out, (hS.get 1 rfl).cell 3 G3.out, (hS.get 1 rfl).cell 4 G4.out, (hS.get 1 rfl).cell 5 G5.out, (hS.get 1 rfl).cell 6 G6.out⟩ (fun hHeld => ?_)
        clear hK K
        simp only [Act.put, List.setIfInBounds_toArray, List.set_cons_succ, List.set_cons_zero]
        refine wpAnyH_ready (rs := [4, 25]) (by kernel_rfl) (by simp) ?_
        refine hcons rfl rfl (fun K hK => ?_) ?_
        · clear hHeld
          have hcall := ofour_ok x (.slice a0 l.length c0) l (.slice (some ⟨gk, 0, none⟩) 1 1) [s.channel] _ (hS.get 0 rfl) Hv.out ((RowV.lit 26 1 gk 1 [.int .u32 s.channel] rfl (by decide)).read (hS.get 2 rfl)) (hS.apart 0 2 rfl rfl (by decide)) H4.out (by omega) (by simp)
          refine owp_call rfl (by kernel_rfl) (args := #[.slice a0 l.length c0, .slice (some ⟨gk, 0, none⟩) 1 1]) rfl hcall ?_
          clear hcall
          rintro e w5 ⟨v5, x5, rfl, hrow5, hc⟩
          rw [fours_one, Hl1.out] at hrow5
          replace hS := hS.call1 (N := []) 0 rfl hc
          try simp only [List.cons_append, List.nil_append, List.append_nil, List.set_cons_zero, List.set_cons_succ] at hS
          clear hc
          obtain ⟨a5, c5, rfl⟩ := hrow5.isSl
          refine ⟨_, rfl, ?_⟩
          refine hK.out _ _ ⟨(hS.get 1 rfl).cell 0 G0.out, (hS.get 1 rfl).cell 1 G1.out, (hS.get 1 rfl).cell 2 G2.out, (hS.get 1 rfl).cell 3 G3.out, (hS.get 1 rfl).cell 4 G4.out, (hS.get 1 rfl).cell 5 G5.out, (hS.get 1 rfl).cell 6 G6.out⟩ (fun hHeld => ?_)
          clear hK K
          simp only [Act.put, List.setIfInBounds_toArray, List.set_cons_succ, List.set_cons_zero]
          refine wpAnyH_ready (rs := [20, 25]) (by kernel_rfl) (by simp) ?_
          refine hcons rfl rfl (fun K hK => ?_) ?_
          · clear hHeld
            have hcall := oeight_ok x5 (.slice a5 (l.length + 4) c5) (l ++ enc 4 s.channel) (.slice (some ⟨gm, 0, none⟩) 5 5) [s.round, s.m0, s.m1, s.t0, s.t1] _ (hS.get 0 rfl) (by rw [Hl1.out]; exact hrow5) ((RowV.lit 27 1 gm 5 [.int .u64 s.round, .int .u64 s.m0, .int .u64 s.m1, .int .u64 s.t0, .int .u64 s.t1] rfl (by decide)).read (hS.get 3 rfl)) (hS.apart 0 3 rfl rfl (by decide)) H8.out (by rw [Hl1.out]; omega) (by simp)
            refine owp_call rfl (by kernel_rfl) (args := #[.slice a5 (l.length + 4) c5, .slice (some ⟨gm, 0, none⟩) 5 5]) rfl hcall ?_
            clear hcall
            rintro e w6 ⟨v6, x6, rfl, hrow6, hc⟩
            rw [Hl2.out] at hrow6
            replace hS := hS.call1 (N := []) 0 rfl hc
            try simp only [List.cons_append, List.nil_append, List.append_nil, List.set_cons_zero, List.set_cons_succ] at hS
            clear hc
            obtain ⟨a6, c6, rfl⟩ := hrow6.isSl
            refine ⟨_, rfl, ?_⟩
            refine hK.out _ _ ⟨(hS.get 1 rfl).cell 0 G0.out, (hS.get 1 rfl).cell 1 G1.out, (hS.get 1 rfl).cell 2 G2.out, (hS.get 1 rfl).cell 3 G3.out, (hS.get 1 rfl).cell 4 G4.out, (hS.get 1 rfl).cell 5 G5.out, (hS.get 1 rfl).cell 6 G6.out⟩ (fun hHeld => ?_)
            clear hK K
            simp only [Act.put, List.setIfInBounds_toArray, List.set_cons_succ, List.set_cons_zero]
            refine wpAnyH_ready (rs := [25]) (by kernel_rfl) (by simp) ?_
            refine hcons rfl rfl (fun K hK => ?_) ?_
            · clear hHeld
              refine owp_bslice1 (vs := [.int .u8 _]) hS rfl rfl (by rfl) (by decide) ?_
              clear hS; intro gn _ hS; try simp only [List.cons_append, List.nil_append, List.append_nil, List.set_cons_zero, List.set_cons_succ] at hS
              refine hK.out _ _ ⟨(hS.get 1 rfl).cell 0 G0.out, (hS.get 1 rfl).cell 1 G1.out, (hS.get 1 rfl).cell 2 G2.out, (hS.get 1 rfl).cell 3 G3.out, (hS.get 1 rfl).cell 4 G4.out, (hS.get 1 rfl).cell 5 G5.out, (hS.get 1 rfl).cell 6 G6.out⟩ (fun hHeld => ?_)
              clear hK K
              simp only [Act.put, List.setIfInBounds_toArray, List.set_cons_succ, List.set_cons_zero]
              refine wpAnyH_ready (rs := [26]) (by kernel_rfl) (by simp) ?_
              refine hcons rfl rfl (fun K hK => ?_) ?_
              · clear hHeld
                rw [← Hb.out] at hS
                have hcall := oone_ok x6 (.slice a6 (l.length + 44) c6) (l ++ enc 4 s.channel ++ eights [s.round, s.m0, s.m1, s.t0, s.t1]) (.slice (some ⟨gn, 0, none⟩) 1 1) [UInt8.ofNat s.conds.length] _ (hS.get 0 rfl) (by rw [Hl2.out]; exact hrow6) ((RowV.lit 5 1 gn 1 _ rfl (by decide)).read (hS.get 4 rfl)) (by rw [Hl2.out]; simp; omega)
                refine owp_call rfl (by kernel_rfl) (args := #[.slice a6 (l.length + 44) c6, .slice (some ⟨gn, 0, none⟩) 1 1]) rfl hcall ?_
                clear hcall
                rintro e w7 ⟨v7, x7, rfl, hrow7, hc⟩
                rw [Hfin.out] at hrow7
                replace hS := hS.call1 (N := []) 0 rfl hc
                try simp only [List.cons_append, List.nil_append, List.append_nil, List.set_cons_zero, List.set_cons_succ] at hS
                clear hc
                obtain ⟨a7, c7, rfl⟩ := hrow7.isSl
                refine ⟨_, rfl, ?_⟩
                refine hK.out _ _ ⟨(hS.get 1 rfl).cell 0 G0.out, (hS.get 1 rfl).cell 1 G1.out, (hS.get 1 rfl).cell 2 G2.out, (hS.get 1 rfl).cell 3 G3.out, (hS.get 1 rfl).cell 4 G4.out, (hS.get 1 rfl).cell 5 G5.out, (hS.get 1 rfl).cell 6 G6.out⟩ (fun hHeld => ?_)
                clear hK K
                simp only [Act.put, List.setIfInBounds_toArray, List.set_cons_succ, List.set_cons_zero]
                refine htake (i := 27) (v := (.slice a7 (l ++ layStateHead s).length c7)) rfl (by kernel_rfl) (by kernel_rfl) (by kernel_rfl) (fun _ _ _ h => h) (Or.inl ⟨by rfl, by (intro w hSw; (try dsimp only at hSw); (try obtain ⟨h0, h1, h2, h3, h4, h5, h6⟩ := hSw); go_simp; try with_reducible rfl)⟩) (by assumption) ?_; simp only [Act.put, List.setIfInBounds_toArray, List.set_cons_succ, List.set_cons_zero]
                refine wpAnyH_done (by kernel_rfl) ?_ _
                clear hHeld
                go_wp2_with fail
                go_meet
                exact ⟨x7, hrow7, hS.pick [0, 1] rfl (by decide)⟩
              exact AllReadyH.nil
            exact AllReadyH.nil
          refine hcons rfl rfl (fun K hK => ?_) ?_
          · clear hHeld
            refine owp_bslice1 (vs := [.int .u8 _]) hS rfl rfl (by rfl) (by decide) ?_
            clear hS; intro gn _ hS; try simp only [List.cons_append, List.nil_append, List.append_nil, List.set_cons_zero, List.set_cons_succ] at hS
            refine hK.out _ _ ⟨(hS.get 1 rfl).cell 0 G0.out, (hS.get 1 rfl).cell 1 G1.out, (hS.get 1 rfl).cell 2 G2.out, (hS.get 1 rfl).cell 3 G3.out, (hS.get 1 rfl).cell 4 G4.out, (hS.get 1 rfl).cell 5 G5.out, (hS.get 1 rfl).cell 6 G6.out⟩ (fun hHeld => ?_)
            clear hK K
            simp only [Act.put, List.setIfInBounds_toArray, List.set_cons_succ, List.set_cons_zero]
            refine wpAnyH_ready (rs := [20]) (by kernel_rfl) (by simp) ?_
            refine hcons rfl rfl (fun K hK => ?_) ?_
            · clear hHeld
              have hcall := oeight_ok x5 (.slice a5 (l.length + 4) c5) (l ++ enc 4 s.channel) (.slice (some ⟨gm, 0, none⟩) 5 5) [s.round, s.m0, s.m1, s.t0, s.t1] _ (hS.get 0 rfl) (by rw [Hl1.out]; exact hrow5) ((RowV.lit 27 1 gm 5 [.int .u64 s.round, .int .u64 s.m0, .int .u64 s.m1, .int .u64 s.t0, .int .u64 s.t1] rfl (by decide)).read (hS.get 3 rfl)) (hS.apart 0 3 rfl rfl (by decide)) H8.out (by rw [Hl1.out]; omega) (by simp)
              refine owp_call rfl (by kernel_rfl) (args := #[.slice a5 (l.length + 4) c5, .slice (some ⟨gm, 0, none⟩) 5 5]) rfl hcall ?_
              clear hcall
              rintro e w6 ⟨v6, x6, rfl, hrow6, hc⟩
              rw [Hl2.out] at hrow6
              replace hS := hS.call1 (N := []) 0 rfl hc
              try simp only [List.cons_append, List.nil_append, List.append_nil, List.set_cons_zero, List.set_cons_succ] at hS
              clear hc
              obtain ⟨a6, c6, rfl⟩ := hrow6.isSl
              refine ⟨_, rfl, ?_⟩
              refine hK.out _ _ ⟨(hS.get 1 rfl).cell 0 G0.out, (hS.get 1 rfl).cell 1 G1.out, (hS.get 1 rfl).cell 2 G2.out, (hS.get 1 rfl).cell 3 G3.out, (hS.get 1 rfl).cell 4 G4.out, (hS.get 1 rfl).cell 5 G5.out, (hS.get 1 rfl).cell 6 G6.out⟩ (fun hHeld => ?_)
              clear hK K
              simp only [Act.put, List.setIfInBounds_toArray, List.set_cons_succ, List.set_cons_zero]
              refine wpAnyH_ready (rs := [26]) (by kernel_rfl) (by simp) ?_
              refine hcons rfl rfl (fun K hK => ?_) ?_
              · clear hHeld
                rw [← Hb.out] at hS
                have hcall := oone_ok x6 (.slice a6 (l.length + 44) c6) (l ++ enc 4 s.channel ++ eights [s.round, s.m0, s.m1, s.t0, s.t1]) (.slice (some ⟨gn, 0, none⟩) 1 1) [UInt8.ofNat s.conds.length] _ (hS.get 0 rfl) (by rw [Hl2.out]; exact hrow6) ((RowV.lit 5 1 gn 1 _ rfl (by decide)).read (hS.get 4 rfl)) (by rw [Hl2.out]; simp; omega)
                refine owp_call rfl (by kernel_rfl) (args := #[.slice a6 (l.length + 44) c6, .slice (some ⟨gn, 0, none⟩) 1 1]) rfl hcall ?_
                clear hcall
                rintro e w7 ⟨v7, x7, rfl, hrow7, hc⟩
                rw [Hfin.out] at hrow7
                replace hS := hS.call1 (N := []) 0 rfl hc
                try simp only [List.cons_append, List.nil_append, List.append_nil, List.set_cons_zero, List.set_cons_succ] at hS
                clear hc
                obtain ⟨a7, c7, rfl⟩ := hrow7.isSl
                refine ⟨_, rfl, ?_⟩
                refine hK.out _ _ ⟨(hS.get 1 rfl).cell 0 G0.out, (hS.get 1 rfl).cell 1 G1.out, (hS.get 1 rfl).cell 2 G2.out, (hS.get 1 rfl).cell 3 G3.out, (hS.get 1 rfl).cell 4 G4.out, (hS.get 1 rfl).cell 5 G5.out, (hS.get 1 rfl).cell 6 G6.out⟩ (fun hHeld => ?_)
                clear hK K
                simp only [Act.put, List.setIfInBounds_toArray, List.set_cons_succ, List.set_cons_zero]
                refine htake (i := 27) (v := (.slice a7 (l ++ layStateHead s).length c7)) rfl (by kernel_rfl) (by kernel_rfl) (by kernel_rfl) (fun _ _ _ h => h) (Or.inl ⟨by rfl, by (intro w hSw; (try dsimp only at hSw); (try obtain ⟨h0, h1, h2, h3, h4, h5, h6⟩ := hSw); go_simp; try with_reducible rfl)⟩) (by assumption) ?_; simp only [Act.put, List.setIfInBounds_toArray, List.set_cons_succ, List.set_cons_zero]
                refine wpAnyH_done (by kernel_rfl) ?_ _
                clear hHeld
                go_wp2_with fail
                go_meet
                exact ⟨x7, hrow7, hS.pick [0, 1] rfl (by decide)⟩
              exact AllReadyH.nil
            exact AllReadyH.nil
          exact AllReadyH.nil
        refine hcons rfl rfl (fun K hK => ?_) ?_
        · clear hHeld
          refine owp_bslice1 (vs := [.int .u8 _]) hS rfl rfl (by rfl) (by decide) ?_
          clear hS; intro gn _ hS; try simp only [List.cons_append, List.nil_append, List.append_nil, List.set_cons_zero, List.set_cons_succ] at hS
          refine hK.out _ _ ⟨(hS.get 1 rfl).cell 0 G0.out, (hS.get 1 rfl).cell 1 G1.out, (hS.get 1 rfl).cell 2 G2.out, (hS.get 1 rfl).cell 3 G3.out, (hS.get 1 rfl).cell 4 G4.out, (hS.get 1 rfl).cell 5 G5.out, (hS.get 1 rfl).cell 6 G6.out⟩ (fun hHeld => ?_)
          clear hK K
          simp only [Act.put, List.setIfInBounds_toArray, List.set_cons_succ, List.set_cons_zero]
          refine wpAnyH_ready (rs := [4]) (by kernel_rfl) (by simp) ?_
          refine hcons rfl rfl (fun K hK => ?_) ?_
          · clear hHeld
            have hcall := ofour_ok x (.slice a0 l.length c0) l (.slice (some ⟨gk, 0, none⟩) 1 1) [s.channel] _ (hS.get 0 rfl) Hv.out ((RowV.lit 26 1 gk 1 [.int .u32 s.channel] rfl (by decide)).read (hS.get 2 rfl)) (hS.apart 0 2 rfl rfl (by decide)) H4.out (by omega) (by simp)
            refine owp_call rfl (by kernel_rfl) (args := #[.slice a0 l.length c0, .slice (some ⟨gk, 0, none⟩) 1 1]) rfl hcall ?_
            clear hcall
            rintro e w5 ⟨v5, x5, rfl, hrow5, hc⟩
            rw [fours_one, Hl1.out] at hrow5
            replace hS := hS.call1 (N := []) 0 rfl hc
            try simp only [List.cons_append, List.nil_append, List.append_nil, List.set_cons_zero, List.set_cons_succ] at hS
            clear hc
            obtain ⟨a5, c5, rfl⟩ := hrow5.isSl
            refine ⟨_, rfl, ?_⟩
            refine hK.out _ _ ⟨(hS.get 1 rfl).cell 0 G0.out, (hS.get 1 rfl).cell 1 G1.out, (hS.get 1 rfl).cell 2 G2.out, (hS.get 1 rfl).cell 3 G3.out, (hS.get 1 rfl).cell 4 G4.out, (hS.get 1 rfl).cell 5 G5.out, (hS.get 1 rfl).cell 6 G6.out⟩ (fun hHeld => ?_)
            clear hK K
            simp only [Act.put, List.setIfInBounds_toArray, List.set_cons_succ, List.set_cons_zero]
            refine wpAnyH_ready (rs := [20]) (by kernel_rfl) (by simp) ?_
            refine hcons rfl rfl (fun K hK => ?_) ?_
            · clear hHeld
              have hcall := oeight_ok x5 (.slice a5 (l.length + 4) c5) (l ++ enc 4 s.channel) (.slice (some ⟨gm, 0, none⟩) 5 5) [s.round, s.m0, s.m1, s.t0, s.t1] _ (hS.get 0 rfl) (by rw [Hl1.out]; exact hrow5) ((RowV.lit 27 1 gm 5 [.int .u64 s.round, .int .u64 s.m0, .int .u64 s.m1, .int .u64 s.t0, .int .u64 s.t1] rfl (by decide)).read (hS.get 3 rfl)) (hS.apart 0 3 rfl rfl (by decide)) H8.out (by rw [Hl1.out]; omega) (by simp)
              refine owp_call rfl (by kernel_rfl) (args := #[.slice a5 (l.length + 4) c5, .slice (some ⟨gm, 0, none⟩) 5 5]) rfl hcall ?_
              clear hcall
              rintro e w6 ⟨v6, x6, rfl, hrow6, hc⟩
              rw [Hl2.out] at hrow6
              replace hS := hS.call1 (N := []) 0 rfl hc
              try simp only [List.cons_append, List.nil_append, List.append_nil, List.set_cons_zero, List.set_cons_succ] at hS
              clear hc
              obtain ⟨a6, c6, rfl⟩ := hrow6.isSl
              refine ⟨_, rfl, ?_⟩
              refine hK.out _ _ ⟨(hS.get 1 rfl).cell 0 G0.out, (hS.get 1 rfl).cell 1 G1.out, (hS.get 1 rfl).cell 2 G2.out, (hS.get 1 rfl).cell 3 G3.out, (hS.get 1 rfl).cell 4 G4.out, (hS.get 1 rfl).cell 5 G5.out, (hS.get 1 rfl).cell 6 G6.out⟩ (fun hHeld => ?_)
              clear hK K
              simp only [Act.put, List.setIfInBounds_toArray, List.set_cons_succ, List.set_cons_zero]
              refine wpAnyH_ready (rs := [26]) (by kernel_rfl) (by simp) ?_
              refine hcons rfl rfl (fun K hK => ?_) ?_
              · clear hHeld
                rw [← Hb.out] at hS
                have hcall := oone_ok x6 (.slice a6 (l.length + 44) c6) (l ++ enc 4 s.channel ++ eights [s.round, s.m0, s.m1, s.t0, s.t1]) (.slice (some ⟨gn, 0, none⟩) 1 1) [UInt8.ofNat s.conds.length] _ (hS.get 0 rfl) (by rw [Hl2.out]; exact hrow6) ((RowV.lit 5 1 gn 1 _ rfl (by decide)).read (hS.get 4 rfl)) (by rw [Hl2.out]; simp; omega)
                refine owp_call rfl (by kernel_rfl) (args := #[.slice a6 (l.length + 44) c6, .slice (some ⟨gn, 0, none⟩) 1 1]) rfl hcall ?_
                clear hcall
                rintro e w7 ⟨v7, x7, rfl, hrow7, hc⟩
                rw [Hfin.out] at hrow7
                replace hS := hS.call1 (N := []) 0 rfl hc
                try simp only [List.cons_append, List.nil_append, List.append_nil, List.set_cons_zero, List.set_cons_succ] at hS
                clear hc
                obtain ⟨a7, c7, rfl⟩ := hrow7.isSl
                refine ⟨_, rfl, ?_⟩
                refine hK.out _ _ ⟨(hS.get 1 rfl).cell 0 G0.out, (hS.get 1 rfl).cell 1 G1.out, (hS.get 1 rfl).cell 2 G2.out, (hS.get 1 rfl).cell 3 G3.out, (hS.get 1 rfl).cell 4 G4.out, (hS.get 1 rfl).cell 5 G5.out, (hS.get 1 rfl).cell 6 G6.out⟩ (fun hHeld => ?_)
                clear hK K
                simp only [Act.put, List.setIfInBounds_toArray, List.set_cons_succ, List.set_cons_zero]
                refine htake (i := 27) (v := (.slice a7 (l ++ layStateHead s).length c7)) rfl (by kernel_rfl) (by kernel_rfl) (by kernel_rfl) (fun _ _ _ h => h) (Or.inl ⟨by rfl, by (intro w hSw; (try dsimp only at hSw); (try obtain ⟨h0, h1, h2, h3, h4, h5, h6⟩ := hSw); go_simp; try with_reducible rfl)⟩) (by assumption) ?_; simp only [Act.put, List.setIfInBounds_toArray, List.set_cons_succ, List.set_cons_zero]
                refine wpAnyH_done (by kernel_rfl) ?_ _
                clear hHeld
                go_wp2_with fail
                go_meet
                exact ⟨x7, hrow7, hS.pick [0, 1] rfl (by decide)⟩
              exact AllReadyH.nil
            exact AllReadyH.nil
          exact AllReadyH.nil
        exact AllReadyH.nil
      refine hcons rfl rfl (fun K hK => ?_) ?_
      · clear hHeld
        refine owp_bslice1 (vs := [.int .u8 _]) hS rfl rfl (by rfl) (by decide) ?_
        clear hS; intro gn _ hS; try simp only [List.cons_append, List.nil_append, List.append_nil, List.set_cons_zero, List.set_cons_succ] at hS
        refine hK.out _ _ ⟨(hS.get 1 rfl).cell 0 G0.out, (hS.get 1 rfl).cell 1 G1.out, (hS.get 1 rfl).cell 2 G2.out, (hS.get 1 rfl).cell 3 G3.out, (hS.get 1 rfl).cell 4 G4.out, (hS.get 1 rfl).cell 5 G5.out, (hS.get 1 rfl).cell 6 G6.out⟩ (fun hHeld => ?_)
        clear hK K
        simp only [Act.put, List.setIfInBounds_toArray, List.set_cons_succ, List.set_cons_zero]
        refine wpAnyH_ready (rs := [4, 19]) (by kernel_rfl) (by simp) ?_
        refine hcons rfl rfl (fun K hK => ?_) ?_
        · clear hHeld
          have hcall := ofour_ok x (.slice a0 l.length c0) l (.slice (some ⟨gk, 0, none⟩) 1 1) [s.channel] _ (hS.get 0 rfl) Hv.out ((RowV.lit 26 1 gk 1 [.int .u32 s.channel] rfl (by decide)).read (hS.get 2 rfl)) (hS.apart 0 2 rfl rfl (by decide)) H4.out (by omega) (by simp)
          refine owp_call rfl (by kernel_rfl) (args := #[.slice a0 l.length c0, .slice (some ⟨gk, 0, none⟩) 1 1]) rfl hcall ?_
          clear hcall
          rintro e w5 ⟨v5, x5, rfl, hrow5, hc⟩
          rw [fours_one, Hl1.out] at hrow5
          replace hS := hS.call1 (N := []) 0 rfl hc
          try simp only [List.cons_append, List.nil_append, List.append_nil, List.set_cons_zero, List.set_cons_succ] at hS
          clear hc
          obtain ⟨a5, c5, rfl⟩ := hrow5.isSl
          refine ⟨_, rfl, ?_⟩
          refine hK.out _ _ ⟨(hS.get 1 rfl).cell 0 G0.out, (hS.get 1 rfl).cell 1 G1.out, (hS.get 1 rfl).cell 2 G2.out, (hS.get 1 rfl).cell 3 G3.out, (hS.get 1 rfl).cell 4 G4.out, (hS.get 1 rfl).cell 5 G5.out, (hS.get 1 rfl).cell 6 G6.out⟩ (fun hHeld => ?_)
          clear hK K
          simp only [Act.put, List.setIfInBounds_toArray, List.set_cons_succ, List.set_cons_zero]
          refine wpAnyH_ready (rs := [19]) (by kernel_rfl) (by simp) ?_
          refine hcons rfl rfl (fun K hK => ?_) ?_
          · clear hHeld
            refine owp_bslice5 hS rfl rfl rfl rfl rfl rfl rfl rfl rfl rfl rfl ?_
            clear hS; intro gm _ hS; try simp only [List.cons_append, List.nil_append, List.append_nil, List.set_cons_zero, List.set_cons_succ] at hS
            refine hK.out _ _ ⟨(hS.get 1 rfl).cell 0 G0.out, (hS.get 1 rfl).cell 1 G1.out, (hS.get 1 rfl).cell 2 G2.out, (hS.get 1 rfl).cell 3 G3.out, (hS.get 1 rfl).cell 4 G4.out, (hS.get 1 rfl).cell 5 G5.out, (hS.get 1 rfl).cell 6 G6.out⟩ (fun hHeld => ?_)
            clear hK K
            simp only [Act.put, List.setIfInBounds_toArray, List.set_cons_succ, List.set_cons_zero]
            refine wpAnyH_ready (rs := [20]) (by kernel_rfl) (by simp) ?_
            refine hcons rfl rfl (fun K hK => ?_) ?_
            · clear hHeld
              have hcall := oeight_ok x5 (.slice a5 (l.length + 4) c5) (l ++ enc 4 s.channel) (.slice (some ⟨gm, 0, none⟩) 5 5) [s.round, s.m0, s.m1, s.t0, s.t1] _ (hS.get 0 rfl) (by rw [Hl1.out]; exact hrow5) ((RowV.lit 27 1 gm 5 [.int .u64 s.round, .int .u64 s.m0, .int .u64 s.m1, .int .u64 s.t0, .int .u64 s.t1] rfl (by decide)).read (hS.get 4 rfl)) (hS.apart 0 4 rfl rfl (by decide)) H8.out (by rw [Hl1.out]; omega) (by simp)
              refine owp_call rfl (by kernel_rfl) (args := #[.slice a5 (l.length + 4) c5, .slice (some ⟨gm, 0, none⟩) 5 5]) rfl hcall ?_
              clear hcall
              rintro e w6 ⟨v6, x6, rfl, hrow6, hc⟩
              rw [Hl2.out] at hrow6
              replace hS := hS.call1 (N := []) 0 rfl hc
              try simp only [List.cons_append, List.nil_append, List.append_nil, List.set_cons_zero, List.set_cons_succ] at hS
              clear hc
              obtain ⟨a6, c6, rfl⟩ := hrow6.isSl
              refine ⟨_, rfl, ?_⟩
              refine hK.out _ _ ⟨(hS.get 1 rfl).cell 0 G0.out, (hS.get 1 rfl).cell 1 G1.out, (hS.get 1 rfl).cell 2 G2.out, (hS.get 1 rfl).cell 3 G3.out, (hS.get 1 rfl).cell 4 G4.out, (hS.get 1 rfl).cell 5 G5.out, (hS.get 1 rfl).cell 6 G6.out⟩ (fun hHeld => ?_)
              clear hK K
              simp only [Act.put, List.setIfInBounds_toArray, List.set_cons_succ, List.set_cons_zero]
              refine wpAnyH_ready (rs := [26]) (by kernel_rfl) (by simp) ?_
              refine hcons rfl rfl (fun K hK => ?_) ?_
              · clear hHeld
                rw [← Hb.out] at hS
                have hcall := oone_ok x6 (.slice a6 (l.length + 44) c6) (l ++ enc 4 s.channel ++ eights [s.round, s.m0, s.m1, s.t0, s.t1]) (.slice (some ⟨gn, 0, none⟩) 1 1) [UInt8.ofNat s.conds.length] _ (hS.get 0 rfl) (by rw [Hl2.out]; exact hrow6) ((RowV.lit 5 1 gn 1 _ rfl (by decide)).read (hS.get 3 rfl)) (by rw [Hl2.out]; simp; omega)
                refine owp_call rfl (by kernel_rfl) (args := #[.slice a6 (l.length + 44) c6, .slice (some ⟨gn, 0, none⟩) 1 1]) rfl hcall ?_
                clear hcall
                rintro e w7 ⟨v7, x7, rfl, hrow7, hc⟩
                rw [Hfin.out] at hrow7
                replace hS := hS.call1 (N := []) 0 rfl hc
                try simp only [List.cons_append, List.nil_append, List.append_nil, List.set_cons_zero, List.set_cons_succ] at hS
                clear hc
                obtain ⟨a7, c7, rfl⟩ := hrow7.isSl
                refine ⟨_, rfl, ?_⟩
                refine hK.out _ _ ⟨(hS.get 1 rfl).cell 0 G0.out, (hS.get 1 rfl).cell 1 G1.out, (hS.get 1 rfl).cell 2 G2.out, (hS.get 1 rfl).cell 3 G3.out, (hS.get 1 rfl).cell 4 G4.out, (hS.get 1 rfl).cell 5 G5.out, (hS.get 1 rfl).cell 6 G6.out⟩ (fun hHeld => ?_)
                clear hK K
                simp only [Act.put, List.setIfInBounds_toArray, List.set_cons_succ, List.set_cons_zero]
                refine htake (i := 27) (v := (.slice a7 (l ++ layStateHead s).length c7)) rfl (by kernel_rfl) (by kernel_rfl) (by kernel_rfl) (fun _ _ _ h => h) (Or.inl ⟨by rfl, by (intro w hSw; (try dsimp only at hSw); (try obtain ⟨h0, h1, h2, h3, h4, h5, h6⟩ := hSw); go_simp; try with_reducible rfl)⟩) (by assumption) ?_; simp only [Act.put, List.setIfInBounds_toArray, List.set_cons_succ, List.set_cons_zero]
                refine wpAnyH_done (by kernel_rfl) ?_ _
                clear hHeld
                replace hS := hS.pick [0, 1, 2, 4, 3] rfl (by decide)
                go_wp2_with fail
                go_meet
                exact ⟨x7, hrow7, hS.pick [0, 1] rfl (by decide)⟩
              exact AllReadyH.nil
            exact AllReadyH.nil
          exact AllReadyH.nil
        refine hcons rfl rfl (fun K hK => ?_) ?_
        · clear hHeld
          refine owp_bslice5 hS rfl rfl rfl rfl rfl rfl rfl rfl rfl rfl rfl ?_
          clear hS; intro gm _ hS; try simp only [List.cons_append, List.nil_append, List.append_nil, List.set_cons_zero, List.set_cons_succ] at hS
          refine hK.out _ _ ⟨(hS.get 1 rfl).cell 0 G0.out, (hS.get 1 rfl).cell 1 G1.out, (hS.get 1 rfl).cell 2 G2.out, (hS.get 1 rfl).cell 3 G3.out, (hS.get 1 rfl).cell 4 G4.out, (hS.get 1 rfl).cell 5 G5.out, (hS.get 1 rfl).cell 6 G6.out⟩ (fun hHeld => ?_)
          clear hK K
          simp only [Act.put, List.setIfInBounds_toArray, List.set_cons_succ, List.set_cons_zero]
          refine wpAnyH_ready (rs := [4]) (by kernel_rfl) (by simp) ?_
          refine hcons rfl rfl (fun K hK => ?_) ?_
          · clear hHeld
            have hcall := ofour_ok x (.slice a0 l.length c0) l (.slice (some ⟨gk, 0, none⟩) 1 1) [s.channel] _ (hS.get 0 rfl) Hv.out ((RowV.lit 26 1 gk 1 [.int .u32 s.channel] rfl (by decide)).read (hS.get 2 rfl)) (hS.apart 0 2 rfl rfl (by decide)) H4.out (by omega) (by simp)
            refine owp_call rfl (by kernel_rfl) (args := #[.slice a0 l.length c0, .slice (some ⟨gk, 0, none⟩) 1 1]) rfl hcall ?_
            clear hcall
            rintro e w5 ⟨v5, x5, rfl, hrow5, hc⟩
            rw [fours_one, Hl1.out] at hrow5
            replace hS := hS.call1 (N := []) 0 rfl hc
            try simp only [List.cons_append, List.nil_append, List.append_nil, List.set_cons_zero, List.set_cons_succ] at hS
            clear hc
            obtain ⟨a5, c5, rfl⟩ := hrow5.isSl
            refine ⟨_, rfl, ?_⟩
            refine hK.out _ _ ⟨(hS.get 1 rfl).cell 0 G0.out, (hS.get 1 rfl).cell 1 G1.out, (hS.get 1 rfl).cell 2 G2.out, (hS.get 1 rfl).cell 3 G3.out, (hS.get 1 rfl).cell 4 G4.out, (hS.get 1 rfl).cell 5 G5.out, (hS.get 1 rfl).cell 6 G6.out⟩ (fun hHeld => ?_)
            clear hK K
            simp only [Act.put, List.setIfInBounds_toArray, List.set_cons_succ, List.set_cons_zero]
            refine wpAnyH_ready (rs := [20]) (by kernel_rfl) (by simp) ?_
            refine hcons rfl rfl (fun K hK => ?_) ?_
            · clear hHeld
              have hcall := oeight_ok x5 (.slice a5 (l.length + 4) c5) (l ++ enc 4 s.channel) (.slice (some ⟨gm, 0, none⟩) 5 5) [s.round, s.m0, s.m1, s.t0, s.t1] _ (hS.get 0 rfl) (by rw [Hl1.out]; exact hrow5) ((RowV.lit 27 1 gm 5 [.int .u64 s.round, .int .u64 s.m0, .int .u64 s.m1, .int .u64 s.t0, .int .u64 s.t1] rfl (by decide)).read (hS.get 4 rfl)) (hS.apart 0 4 rfl rfl (by decide)) H8.out (by rw [Hl1.out]; omega) (by simp)
              refine owp_call rfl (by kernel_rfl) (args := #[.slice a5 (l.length + 4) c5, .slice (some ⟨gm, 0, none⟩) 5 5]) rfl hcall ?_
              clear hcall
              rintro e w6 ⟨v6, x6, rfl, hrow6, hc⟩
              rw [Hl2.out] at hrow6
              replace hS := hS.call1 (N := []) 0 rfl hc
              try simp only [List.cons_append, List.nil_append, List.append_nil, List.set_cons_zero, List.set_cons_succ] at hS
              clear hc
              obtain ⟨a6, c6, rfl⟩ := hrow6.isSl
              refine ⟨_, rfl, ?_⟩
              refine hK.out _ _ ⟨(hS.get 1 rfl).cell 0 G0.out, (hS.get 1 rfl).cell 1 G1.out, (hS.get 1 rfl).cell 2 G2.out, (hS.get 1 rfl).cell 3 G3.out, (hS.get 1 rfl).cell 4 G4.out, (hS.get 1 rfl).cell 5 G5.out, (hS.get 1 rfl).cell 6 G6.out⟩ (fun hHeld => ?_)
              clear hK K
              simp only [Act.put, List.setIfInBounds_toArray, List.set_cons_succ, List.set_cons_zero]
              refine wpAnyH_ready (rs := [26]) (by kernel_rfl) (by simp) ?_
              refine hcons rfl rfl (fun K hK => ?_) ?_
              · clear hHeld
                rw [← Hb.out] at hS
                have hcall := oone_ok x6 (.slice a6 (l.length + 44) c6) (l ++ enc 4 s.channel ++ eights [s.round, s.m0, s.m1, s.t0, s.t1]) (.slice (some ⟨gn, 0, none⟩) 1 1) [UInt8.ofNat s.conds.length] _ (hS.get 0 rfl) (by rw [Hl2.out]; exact hrow6) ((RowV.lit 5 1 gn 1 _ rfl (by decide)).read (hS.get 3 rfl)) (by rw [Hl2.out]; simp; omega)
                refine owp_call rfl (by kernel_rfl) (args := #[.slice a6 (l.length + 44) c6, .slice (some ⟨gn, 0, none⟩) 1 1]) rfl hcall ?_
                clear hcall
                rintro e w7 ⟨v7, x7, rfl, hrow7, hc⟩
                rw [Hfin.out] at hrow7
                replace hS := hS.call1 (N := []) 0 rfl hc
                try simp only [List.cons_append, List.nil_append, List.append_nil, List.set_cons_zero, List.set_cons_succ] at hS
                clear hc
                obtain ⟨a7, c7, rfl⟩ := hrow7.isSl
                refine ⟨_, rfl, ?_⟩
                refine hK.out _ _ ⟨(hS.get 1 rfl).cell 0 G0.out, (hS.get 1 rfl).cell 1 G1.out, (hS.get 1 rfl).cell 2 G2.out, (hS.get 1 rfl).cell 3 G3.out, (hS.get 1 rfl).cell 4 G4.out, (hS.get 1 rfl).cell 5 G5.out, (hS.get 1 rfl).cell 6 G6.out⟩ (fun hHeld => ?_)
                clear hK K
                simp only [Act.put, List.setIfInBounds_toArray, List.set_cons_succ, List.set_cons_zero]
                refine htake (i := 27) (v := (.slice a7 (l ++ layStateHead s).length c7)) rfl (by kernel_rfl) (by kernel_rfl) (by kernel_rfl) (fun _ _ _ h => h) (Or.inl ⟨by rfl, by (intro w hSw; (try dsimp only at hSw); (try obtain ⟨h0, h1, h2, h3, h4, h5, h6⟩ := hSw); go_simp; try with_reducible rfl)⟩) (by assumption) ?_; simp only [Act.put, List.setIfInBounds_toArray, List.set_cons_succ, List.set_cons_zero]
                refine wpAnyH_done (by kernel_rfl) ?_ _
                clear hHeld
                replace hS := hS.pick [0, 1, 2, 4, 3] rfl (by decide)
                go_wp2_with fail
                go_meet
                exact ⟨x7, hrow7, hS.pick [0, 1] rfl (by decide)⟩
              exact AllReadyH.nil
            exact AllReadyH.nil
          exact AllReadyH.nil
        exact AllReadyH.nil
      exact AllReadyH.nil
    refine hcons rfl rfl (fun K hK => ?_) ?_
    · clear hHeld
      refine owp_bslice5 hS rfl rfl rfl rfl rfl rfl rfl rfl rfl rfl rfl ?_
      clear hS; intro gm _ hS; try simp only [List.cons_append, List.nil_append, List.append_nil, List.set_cons_zero, List.set_cons_succ] at hS
      refine hK.out _ _ ⟨(hS.get 1 rfl).cell 0 G0.out, (hS.get 1 rfl).cell 1 G1.out, (hS.get 1 rfl).cell 2 G2.out, (hS.get 1 rfl).cell 3 G3.out, (hS.get 1 rfl).cell 4 G4.out, (hS.get 1 rfl).cell 5 G5.out, (hS.get 1 rfl).cell 6 G6.out⟩ (fun hHeld => ?_)
      clear hK K
      simp only [Act.put, List.setIfInBounds_toArray, List.set_cons_succ, List.set_cons_zero]
      refine wpAnyH_ready (rs := [3, 25]) (by kernel_rfl) (by simp) ?_
      refine hcons rfl rfl (fun K hK => ?_) ?_
      · clear hHeld
        refine owp_bslice1 (vs := [.int .u32 _]) hS rfl rfl (by rfl) (by decide) ?_
        clear hS; intro gk _ hS; try simp only [List.cons_append, List.nil_append, List.append_nil, List.set_cons_zero, List.set_cons_succ] at hS
        refine hK.out _ _ ⟨(hS.get 1 rfl).cell 0 G0.out, (hS.get 1 rfl).cell 1 G1.out, (hS.get 1 rfl).cell 2 G2.out, (hS.get 1 rfl).cell 3 G3.out, (hS.get 1 rfl).cell 4 G4.out, (hS.get 1 rfl).cell 5 G5.out, (hS.get 1 rfl).cell 6 G6.out⟩ (fun hHeld => ?_)
        clear hK K
        simp only [Act.put, List.setIfInBounds_toArray, List.set_cons_succ, List.set_cons_zero]
        refine wpAnyH_ready (rs := [4, 25]) (by kernel_rfl) (by simp) ?_
        refine hcons rfl rfl (fun K hK => ?_) ?_
        · clear hHeld
          have hcall := ofour_ok x (.slice a0 l.length c0) l (.slice (some ⟨gk, 0, none⟩) 1 1) [s.channel] _ (hS.get 0 rfl) Hv.out ((RowV.lit 26 1 gk 1 [.int .u32 s.channel] rfl (by decide)).read (hS.get 3 rfl)) (hS.apart 0 3 rfl rfl (by decide)) H4.out (by omega) (by simp)
          refine owp_call rfl (by kernel_rfl) (args := #[.slice a0 l.length c0, .slice (some ⟨gk, 0, none⟩) 1 1]) rfl hcall ?_
          clear hcall
          rintro e w5 ⟨v5, x5, rfl, hrow5, hc⟩
          rw [fours_one, Hl1.out] at hrow5
          replace hS := hS.call1 (N := []) 0 rfl hc
          try simp only [List.cons_append, List.nil_append, List.append_nil, List.set_cons_zero, List.set_cons_succ] at hS
          clear hc
          obtain ⟨a5, c5, rfl⟩ := hrow5.isSl
          refine ⟨_, rfl, ?_⟩
          refine hK.out _ _ ⟨(hS.get 1 rfl).cell 0 G0.out, (hS.get 1 rfl).cell 1 G1.out, (hS.get 1 rfl).cell 2 G2.out, (hS.get 1 rfl).cell 3 G3.out, (hS.get 1 rfl).cell 4 G4.out, (hS.get 1 rfl).cell 5 G5.out, (hS.get 1 rfl).cell 6 G6.out⟩ (fun hHeld => ?_)
          clear hK K
          simp only [Act.put, List.setIfInBounds_toArray, List.set_cons_succ, List.set_cons_zero]
          refine wpAnyH_ready (rs := [20, 25]) (by kernel_rfl) (by simp) ?_
          refine hcons rfl rfl (fun K hK => ?_) ?_
          · clear hHeld
            have hcall := oeight_ok x5 (.slice a5 (l.length + 4) c5) (l ++ enc 4 s.channel) (.slice (some ⟨gm, 0, none⟩) 5 5) [s.round, s.m0, s.m1, s.t0, s.t1] _ (hS.get 0 rfl) (by rw [Hl1.out]; exact hrow5) ((RowV.lit 27 1 gm 5 [.int .u64 s.round, .int .u64 s.m0, .int .u64 s.m1, .int .u64 s.t0, .int .u64 s.t1] rfl (by decide)).read (hS.get 2 rfl)) (hS.apart 0 2 rfl rfl (by decide)) H8.out (by rw [Hl1.out]; omega) (by simp)
            refine owp_call rfl (by kernel_rfl) (args := #[.slice a5 (l.length + 4) c5, .slice (some ⟨gm, 0, none⟩) 5 5]) rfl hcall ?_
            clear hcall
            rintro e w6 ⟨v6, x6, rfl, hrow6, hc⟩
            rw [Hl2.out] at hrow6
            replace hS := hS.call1 (N := []) 0 rfl hc
            try simp only [List.cons_append, List.nil_append, List.append_nil, List.set_cons_zero, List.set_cons_succ] at hS
            clear hc
            obtain ⟨a6, c6, rfl⟩ := hrow6.isSl
            refine ⟨_, rfl, ?_⟩
            refine hK.out _ _ ⟨(hS.get 1 rfl).cell 0 G0.out, (hS.get 1 rfl).cell 1 G1.out, (hS.get 1 rfl).cell 2 G2.out, (hS.get 1 rfl).cell 3 G3.out, (hS.get 1 rfl).cell 4 G4.out, (hS.get 1 rfl).cell 5 G5.out, (hS.get 1 rfl).cell 6 G6.out⟩ (fun hHeld => ?_)
            clear hK K
            simp only [Act.put, List.setIfInBounds_toArray, List.set_cons_succ, List.set_cons_zero]
            refine wpAnyH_ready (rs := [25]) (by kernel_rfl) (by simp) ?_
            refine hcons rfl rfl (fun K hK => ?_) ?_
            · clear hHeld
              refine owp_bslice1 (vs := [.int .u8 _]) hS rfl rfl (by rfl) (by decide) ?_
              clear hS; intro gn _ hS; try simp only [List.cons_append, List.nil_append, List.append_nil, List.set_cons_zero, List.set_cons_succ] at hS
              refine hK.out _ _ ⟨(hS.get 1 rfl).cell 0 G0.out, (hS.get 1 rfl).cell 1 G1.out, (hS.get 1 rfl).cell 2 G2.out, (hS.get 1 rfl).cell 3 G3.out, (hS.get 1 rfl).cell 4 G4.out, (hS.get 1 rfl).cell 5 G5.out, (hS.get 1 rfl).cell 6 G6.out⟩ (fun hHeld => ?_)
              clear hK K
              simp only [Act.put, List.setIfInBounds_toArray, List.set_cons_succ, List.set_cons_zero]
              refine wpAnyH_ready (rs := [26]) (by kernel_rfl) (by simp) ?_
              refine hcons rfl rfl (fun K hK => ?_) ?_
              · clear hHeld
                rw [← Hb.out] at hS
                have hcall := oone_ok x6 (.slice a6 (l.length + 44) c6) (l ++ enc 4 s.channel ++ eights [s.round, s.m0, s.m1, s.t0, s.t1]) (.slice (some ⟨gn, 0, none⟩) 1 1) [UInt8.ofNat s.conds.length] _ (hS.get 0 rfl) (by rw [Hl2.out]; exact hrow6) ((RowV.lit 5 1 gn 1 _ rfl (by decide)).read (hS.get 4 rfl)) (by rw [Hl2.out]; simp; omega)
                refine owp_call rfl (by kernel_rfl) (args := #[.slice a6 (l.length + 44) c6, .slice (some ⟨gn, 0, none⟩) 1 1]) rfl hcall ?_
                clear hcall
                rintro e w7 ⟨v7, x7, rfl, hrow7, hc⟩
                rw [Hfin.out] at hrow7
                replace hS := hS.call1 (N := []) 0 rfl hc
                try simp only [List.cons_append, List.nil_append, List.append_nil, List.set_cons_zero, List.set_cons_succ] at hS
                clear hc
                obtain ⟨a7, c7, rfl⟩ := hrow7.isSl
                refine ⟨_, rfl, ?_⟩
                refine hK.out _ _ ⟨(hS.get 1 rfl).cell 0 G0.out, (hS.get 1 rfl).cell 1 G1.out, (hS.get 1 rfl).cell 2 G2.out, (hS.get 1 rfl).cell 3 G3.out, (hS.get 1 rfl).cell 4 G4.out, (hS.get 1 rfl).cell 5 G5.out, (hS.get 1 rfl).cell 6 G6.out⟩ (fun hHeld => ?_)
                clear hK K
                simp only [Act.put, List.setIfInBounds_toArray, List.set_cons_succ, List.set_cons_zero]
                refine htake (i := 27) (v := (.slice a7 (l ++ layStateHead s).length c7)) rfl (by kernel_rfl) (by kernel_rfl) (by kernel_rfl) (fun _ _ _ h => h) (Or.inl ⟨by rfl, by (intro w hSw; (try dsimp only at hSw); (try obtain ⟨h0, h1, h2, h3, h4, h5, h6⟩ := hSw); go_simp; try with_reducible rfl)⟩) (by assumption) ?_; simp only [Act.put, List.setIfInBounds_toArray, List.set_cons_succ, List.set_cons_zero]
                refine wpAnyH_done (by kernel_rfl) ?_ _
                clear hHeld
                replace hS := hS.pick [0, 1, 3, 2, 4] rfl (by decide)
                go_wp2_with fail
                go_meet
                exact ⟨x7, hrow7, hS.pick [0, 1] rfl (by decide)⟩
              exact AllReadyH.nil
            exact AllReadyH.nil
          refine hcons rfl rfl (fun K hK => ?_) ?_
          · clear hHeld
            refine owp_bslice1 (vs := [.int .u8 _]) hS rfl rfl (by rfl) (by decide) ?_
            clear hS; intro gn _ hS; try simp only [List.cons_append, List.nil_append, List.append_nil, List.set_cons_zero, List.set_cons_succ] at hS
            refine hK.out _ _ ⟨(hS.get 1 rfl).cell 0 G0.out, (hS.get 1 rfl).cell 1 G1.out, (hS.get 1 rfl).cell 2 G2.out, (hS.get 1 rfl).cell 3 G3.out, (hS.get 1 rfl).cell 4 G4.out, (hS.get 1 rfl).cell 5 G5.out, (hS.get 1 rfl).cell 6 G6.out⟩ (fun hHeld => ?_)
            clear hK K
            simp only [Act.put, List.setIfInBounds_toArray, List.set_cons_succ, List.set_cons_zero]
            refine wpAnyH_ready (rs := [20]) (by kernel_rfl) (by simp) ?_
            refine hcons rfl rfl (fun K hK => ?_) ?_
            · clear hHeld
              have hcall := oeight_ok x5 (.slice a5 (l.length + 4) c5) (l ++ enc 4 s.channel) (.slice (some ⟨gm, 0, none⟩) 5 5) [s.round, s.m0, s.m1, s.t0, s.t1] _ (hS.get 0 rfl) (by rw [Hl1.out]; exact hrow5) ((RowV.lit 27 1 gm 5 [.int .u64 s.round, .int .u64 s.m0, .int .u64 s.m1, .int .u64 s.t0, .int .u64 s.t1] rfl (by decide)).read (hS.get 2 rfl)) (hS.apart 0 2 rfl rfl (by decide)) H8.out (by rw [Hl1.out]; omega) (by simp)
              refine owp_call rfl (by kernel_rfl) (args := #[.slice a5 (l.length + 4) c5, .slice (some ⟨gm, 0, none⟩) 5 5]) rfl hcall ?_
              clear hcall
              rintro e w6 ⟨v6, x6, rfl, hrow6, hc⟩
              rw [Hl2.out] at hrow6
              replace hS := hS.call1 (N := []) 0 rfl hc
              try simp only [List.cons_append, List.nil_append, List.append_nil, List.set_cons_zero, List.set_cons_succ] at hS
              clear hc
              obtain ⟨a6, c6, rfl⟩ := hrow6.isSl
              refine ⟨_, rfl, ?_⟩
              refine hK.out _ _ ⟨(hS.get 1 rfl).cell 0 G0.out, (hS.get 1 rfl).cell 1 G1.out, (hS.get 1 rfl).cell 2 G2.out, (hS.get 1 rfl).cell 3 G3.out, (hS.get 1 rfl).cell 4 G4.out, (hS.get 1 rfl).cell 5 G5.out, (hS.get 1 rfl).cell 6 G6.out⟩ (fun hHeld => ?_)
              clear hK K
              simp only [Act.put, List.setIfInBounds_toArray, List.set_cons_succ, List.set_cons_zero]
              refine wpAnyH_ready (rs := [26]) (by kernel_rfl) (by simp) ?_
              refine hcons rfl rfl (fun K hK => ?_) ?_
              · clear hHeld
                rw [← Hb.out] at hS
                have hcall := oone_ok x6 (.slice a6 (l.length + 44) c6) (l ++ enc 4 s.channel ++ eights [s.round, s.m0, s.m1, s.t0, s.t1]) (.slice (some ⟨gn, 0, none⟩) 1 1) [UInt8.ofNat s.conds.length] _ (hS.get 0 rfl) (by rw [Hl2.out]; exact hrow6) ((RowV.lit 5 1 gn 1 _ rfl (by decide)).read (hS.get 4 rfl)) (by rw [Hl2.out]; simp; omega)
                refine owp_call rfl (by kernel_rfl) (args := #[.slice a6 (l.length + 44) c6, .slice (some ⟨gn, 0, none⟩) 1 1]) rfl hcall ?_
                clear hcall
                rintro e w7 ⟨v7, x7, rfl, hrow7, hc⟩
                rw [Hfin.out] at hrow7
                replace hS := hS.call1 (N := []) 0 rfl hc
                try simp only [List.cons_append, List.nil_append, List.append_nil, List.set_cons_zero, List.set_cons_succ] at hS
                clear hc
                obtain ⟨a7, c7, rfl⟩ := hrow7.isSl
                refine ⟨_, rfl, ?_⟩
                refine hK.out _ _ ⟨(hS.get 1 rfl).cell 0 G0.out, (hS.get 1 rfl).cell 1 G1.out, (hS.get 1 rfl).cell 2 G2.out, (hS.get 1 rfl).cell 3 G3.out, (hS.get 1 rfl).cell 4 G4.out, (hS.get 1 rfl).cell 5 G5.out, (hS.get 1 rfl).cell 6 G6.out⟩ (fun hHeld => ?_)
                clear hK K
                simp only [Act.put, List.setIfInBounds_toArray, List.set_cons_succ, List.set_cons_zero]
                refine htake (i := 27) (v := (.slice a7 (l ++ layStateHead s).length c7)) rfl (by kernel_rfl) (by kernel_rfl) (by kernel_rfl) (fun _ _ _ h => h) (Or.inl ⟨by rfl, by (intro w hSw; (try dsimp only at hSw); (try obtain ⟨h0, h1, h2, h3, h4, h5, h6⟩ := hSw); go_simp; try with_reducible rfl)⟩) (by assumption) ?_; simp only [Act.put, List.setIfInBounds_toArray, List.set_cons_succ, List.set_cons_zero]
                refine wpAnyH_done (by kernel_rfl) ?_ _
                clear hHeld
                replace hS := hS.pick [0, 1, 3, 2, 4] rfl (by decide)
                go_wp2_with fail
                go_meet
                exact ⟨x7, hrow7, hS.pick [0, 1] rfl (by decide)⟩
              exact AllReadyH.nil
            exact AllReadyH.nil
          exact AllReadyH.nil
        refine hcons rfl rfl (fun K hK => ?_) ?_
        · clear hHeld
          refine owp_bslice1 (vs := [.int .u8 _]) hS rfl rfl (by rfl) (by decide) ?_
          clear hS; intro gn _ hS; try simp only [List.cons_append, List.nil_append, List.append_nil, List.set_cons_zero, List.set_cons_succ] at hS
          refine hK.out _ _ ⟨(hS.get 1 rfl).cell 0 G0.out, (hS.get 1 rfl).cell 1 G1.out, (hS.get 1 rfl).cell 2 G2.out, (hS.get 1 rfl).cell 3 G3.out, (hS.get 1 rfl).cell 4 G4.out, (hS.get 1 rfl).cell 5 G5.out, (hS.get 1 rfl).cell 6 G6.out⟩ (fun hHeld => ?_)
          clear hK K
          simp only [Act.put, List.setIfInBounds_toArray, List.set_cons_succ, List.set_cons_zero]
          refine wpAnyH_ready (rs := [4]) (by kernel_rfl) (by simp) ?_
          refine hcons rfl rfl (fun K hK => ?_) ?_
          · clear hHeld
            have hcall := ofour_ok x (.slice a0 l.length c0) l (.slice (some ⟨gk, 0, none⟩) 1 1) [s.channel] _ (hS.get 0 rfl) Hv.out ((RowV.lit 26 1 gk 1 [.int .u32 s.channel] rfl (by decide)).read (hS.get 3 rfl)) (hS.apart 0 3 rfl rfl (by decide)) H4.out (by omega) (by simp)
            refine owp_call rfl (by kernel_rfl) (args := #[.slice a0 l.length c0, .slice (some ⟨gk, 0, none⟩) 1 1]) rfl hcall ?_
            clear hcall
            rintro e w5 ⟨v5, x5, rfl, hrow5, hc⟩
            rw [fours_one, Hl1.out] at hrow5
            replace hS := hS.call1 (N := []) 0 rfl hc
            try simp only [List.cons_append, List.nil_append, List.append_nil, List.set_cons_zero, List.set_cons_succ] at hS
            clear hc
            obtain ⟨a5, c5, rfl⟩ := hrow5.isSl
            refine ⟨_, rfl, ?_⟩
            refine hK.out _ _ ⟨(hS.get 1 rfl).cell 0 G0.out, (hS.get 1 rfl).cell 1 G1.out, (hS.get 1 rfl).cell 2 G2.out, (hS.get 1 rfl).cell 3 G3.out, (hS.get 1 rfl).cell 4 G4.out, (hS.get 1 rfl).cell 5 G5.out, (hS.get 1 rfl).cell 6 G6.out⟩ (fun hHeld => ?_)
            clear hK K
            simp only [Act.put, List.setIfInBounds_toArray, List.set_cons_succ, List.set_cons_zero]
            refine wpAnyH_ready (rs := [20]) (by kernel_rfl) (by simp) ?_
            refine hcons rfl rfl (fun K hK => ?_) ?_
            · clear hHeld
              have hcall := oeight_ok x5 (.slice a5 (l.length + 4) c5) (l ++ enc 4 s.channel) (.slice (some ⟨gm, 0, none⟩) 5 5) [s.round, s.m0, s.m1, s.t0, s.t1] _ (hS.get 0 rfl) (by rw [Hl1.out]; exact hrow5) ((RowV.lit 27 1 gm 5 [.int .u64 s.round, .int .u64 s.m0, .int .u64 s.m1, .int .u64 s.t0, .int .u64 s.t1] rfl (by decide)).read (hS.get 2 rfl)) (hS.apart 0 2 rfl rfl (by decide)) H8.out (by rw [Hl1.out]; omega) (by simp)
              refine owp_call rfl (by kernel_rfl) (args := #[.slice a5 (l.length + 4) c5, .slice (some ⟨gm, 0, none⟩) 5 5]) rfl hcall ?_
              clear hcall
              rintro e w6 ⟨v6, x6, rfl, hrow6, hc⟩
              rw [Hl2.out] at hrow6
              replace hS := hS.call1 (N := []) 0 rfl hc
              try simp only [List.cons_append, List.nil_append, List.append_nil, List.set_cons_zero, List.set_cons_succ] at hS
              clear hc
              obtain ⟨a6, c6, rfl⟩ := hrow6.isSl
              refine ⟨_, rfl, ?_⟩
              refine hK.out _ _ ⟨(hS.get 1 rfl).cell 0 G0.out, (hS.get 1 rfl).cell 1 G1.out, (hS.get 1 rfl).cell 2 G2.out, (hS.get 1 rfl).cell 3 G3.out, (hS.get 1 rfl).cell 4 G4.out, (hS.get 1 rfl).cell 5 G5.out, (hS.get 1 rfl).cell 6 G6.out⟩ (fun hHeld => ?_)
              clear hK K
              simp only [Act.put, List.setIfInBounds_toArray, List.set_cons_succ, List.set_cons_zero]
              refine wpAnyH_ready (rs := [26]) (by kernel_rfl) (by simp) ?_
              refine hcons rfl rfl (fun K hK => ?_) ?_
              · clear hHeld
                rw [← Hb.out] at hS
                have hcall := oone_ok x6 (.slice a6 (l.length + 44) c6) (l ++ enc 4 s.channel ++ eights [s.round, s.m0, s.m1, s.t0, s.t1]) (.slice (some ⟨gn, 0, none⟩) 1 1) [UInt8.ofNat s.conds.length] _ (hS.get 0 rfl) (by rw [Hl2.out]; exact hrow6) ((RowV.lit 5 1 gn 1 _ rfl (by decide)).read (hS.get 4 rfl)) (by rw [Hl2.out]; simp; omega)
                refine owp_call rfl (by kernel_rfl) (args := #[.slice a6 (l.length + 44) c6, .slice (some ⟨gn, 0, none⟩) 1 1]) rfl hcall ?_
                clear hcall
                rintro e w7 ⟨v7, x7, rfl, hrow7, hc⟩
                rw [Hfin.out] at hrow7
                replace hS := hS.call1 (N := []) 0 rfl hc
                try simp only [List.cons_append, List.nil_append, List.append_nil, List.set_cons_zero, List.set_cons_succ] at hS
                clear hc
                obtain ⟨a7, c7, rfl⟩ := hrow7.isSl
                refine ⟨_, rfl, ?_⟩
                refine hK.out _ _ ⟨(hS.get 1 rfl).cell 0 G0.out, (hS.get 1 rfl).cell 1 G1.out, (hS.get 1 rfl).cell 2 G2.out, (hS.get 1 rfl).cell 3 G3.out, (hS.get 1 rfl).cell 4 G4.out, (hS.get 1 rfl).cell 5 G5.out, (hS.get 1 rfl).cell 6 G6.out⟩ (fun hHeld => ?_)
                clear hK K
                simp only [Act.put, List.setIfInBounds_toArray, List.set_cons_succ, List.set_cons_zero]
                refine htake (i := 27) (v := (.slice a7 (l ++ layStateHead s).length c7)) rfl (by kernel_rfl) (by kernel_rfl) (by kernel_rfl) (fun _ _ _ h => h) (Or.inl ⟨by rfl, by (intro w hSw; (try dsimp only at hSw); (try obtain ⟨h0, h1, h2, h3, h4, h5, h6⟩ := hSw); go_simp; try with_reducible rfl)⟩) (by assumption) ?_; simp only [Act.put, List.setIfInBounds_toArray, List.set_cons_succ, List.set_cons_zero]
                refine wpAnyH_done (by kernel_rfl) ?_ _
                clear hHeld
                replace hS := hS.pick [0, 1, 3, 2, 4] rfl (by decide)
                go_wp2_with fail
                go_meet
                exact ⟨x7, hrow7, hS.pick [0, 1] rfl (by decide)⟩
              exact AllReadyH.nil
            exact AllReadyH.nil
          exact AllReadyH.nil
        exact AllReadyH.nil
      refine hcons rfl rfl (fun K hK => ?_) ?_
      · clear hHeld
        refine owp_bslice1 (vs := [.int .u8 _]) hS rfl rfl (by rfl) (by decide) ?_
        clear hS; intro gn _ hS; try simp only [List.cons_append, List.nil_append, List.append_nil, List.set_cons_zero, List.set_cons_succ] at hS
        refine hK.out _ _ ⟨(hS.get 1 rfl).cell 0 G0.out, (hS.get 1 rfl).cell 1 G1.out, (hS.get 1 rfl).cell 2 G2.out, (hS.get 1 rfl).cell 3 G3.out, (hS.get 1 rfl).cell 4 G4.out, (hS.get 1 rfl).cell 5 G5.out, (hS.get 1 rfl).cell 6 G6.out⟩ (fun hHeld => ?_)
        clear hK K
        simp only [Act.put, List.setIfInBounds_toArray, List.set_cons_succ, List.set_cons_zero]
        refine wpAnyH_ready (rs := [3]) (by kernel_rfl) (by simp) ?_
        refine hcons rfl rfl (fun K hK => ?_) ?_
        · clear hHeld
          refine owp_bslice1 (vs := [.int .u32 _]) hS rfl rfl (by rfl) (by decide) ?_
          clear hS; intro gk _ hS; try simp only [List.cons_append, List.nil_append, List.append_nil, List.set_cons_zero, List.set_cons_succ] at hS
          refine hK.out _ _ ⟨(hS.get 1 rfl).cell 0 G0.out, (hS.get 1 rfl).cell 1 G1.out, (hS.get 1 rfl).cell 2 G2.out, (hS.get 1 rfl).cell 3 G3.out, (hS.get 1 rfl).cell 4 G4.out, (hS.get 1 rfl).cell 5 G5.out, (hS.get 1 rfl).cell 6 G6.out⟩ (fun hHeld => ?_)
          clear hK K
          simp only [Act.put, List.setIfInBounds_toArray, List.set_cons_succ, List.set_cons_zero]
          refine wpAnyH_ready (rs := [4]) (by kernel_rfl) (by simp) ?_
          refine hcons rfl rfl (fun K hK => ?_) ?_
          · clear hHeld
            have hcall := ofour_ok x (.slice a0 l.length c0) l (.slice (some ⟨gk, 0, none⟩) 1 1) [s.channel] _ (hS.get 0 rfl) Hv.out ((RowV.lit 26 1 gk 1 [.int .u32 s.channel] rfl (by decide)).read (hS.get 4 rfl)) (hS.apart 0 4 rfl rfl (by decide)) H4.out (by omega) (by simp)
            refine owp_call rfl (by kernel_rfl) (args := #[.slice a0 l.length c0, .slice (some ⟨gk, 0, none⟩) 1 1]) rfl hcall ?_
            clear hcall
            rintro e w5 ⟨v5, x5, rfl, hrow5, hc⟩
            rw [fours_one, Hl1.out] at hrow5
            replace hS := hS.call1 (N := []) 0 rfl hc
            try simp only [List.cons_append, List.nil_append, List.append_nil, List.set_cons_zero, List.set_cons_succ] at hS
            clear hc
            obtain ⟨a5, c5, rfl⟩ := hrow5.isSl
            refine ⟨_, rfl, ?_⟩
            refine hK.out _ _ ⟨(hS.get 1 rfl).cell 0 G0.out, (hS.get 1 rfl).cell 1 G1.out, (hS.get 1 rfl).cell 2 G2.out, (hS.get 1 rfl).cell 3 G3.out, (hS.get 1 rfl).cell 4 G4.out, (hS.get 1 rfl).cell 5 G5.out, (hS.get 1 rfl).cell 6 G6.out⟩ (fun hHeld => ?_)
            clear hK K
            simp only [Act.put, List.setIfInBounds_toArray, List.set_cons_succ, List.set_cons_zero]
            refine wpAnyH_ready (rs := [20]) (by kernel_rfl) (by simp) ?_
            refine hcons rfl rfl (fun K hK => ?_) ?_
            · clear hHeld
              have hcall := oeight_ok x5 (.slice a5 (l.length + 4) c5) (l ++ enc 4 s.channel) (.slice (some ⟨gm, 0, none⟩) 5 5) [s.round, s.m0, s.m1, s.t0, s.t1] _ (hS.get 0 rfl) (by rw [Hl1.out]; exact hrow5) ((RowV.lit 27 1 gm 5 [.int .u64 s.round, .int .u64 s.m0, .int .u64 s.m1, .int .u64 s.t0, .int .u64 s.t1] rfl (by decide)).read (hS.get 2 rfl)) (hS.apart 0 2 rfl rfl (by decide)) H8.out (by rw [Hl1.out]; omega) (by simp)
              refine owp_call rfl (by kernel_rfl) (args := #[.slice a5 (l.length + 4) c5, .slice (some ⟨gm, 0, none⟩) 5 5]) rfl hcall ?_
              clear hcall
              rintro e w6 ⟨v6, x6, rfl, hrow6, hc⟩
              rw [Hl2.out] at hrow6
              replace hS := hS.call1 (N := []) 0 rfl hc
              try simp only [List.cons_append, List.nil_append, List.append_nil, List.set_cons_zero, List.set_cons_succ] at hS
              clear hc
              obtain ⟨a6, c6, rfl⟩ := hrow6.isSl
              refine ⟨_, rfl, ?_⟩
              refine hK.out _ _ ⟨(hS.get 1 rfl).cell 0 G0.out, (hS.get 1 rfl).cell 1 G1.out, (hS.get 1 rfl).cell 2 G2.out, (hS.get 1 rfl).cell 3 G3.out, (hS.get 1 rfl).cell 4 G4.out, (hS.get 1 rfl).cell 5 G5.out, (hS.get 1 rfl).cell 6 G6.out⟩ (fun hHeld => ?_)
              clear hK K
              simp only [Act.put, List.setIfInBounds_toArray, List.set_cons_succ, List.set_cons_zero]
              refine wpAnyH_ready (rs := [26]) (by kernel_rfl) (by simp) ?_
              refine hcons rfl rfl (fun K hK => ?_) ?_
              · clear hHeld
                rw [← Hb.out] at hS
                have hcall := oone_ok x6 (.slice a6 (l.length + 44) c6) (l ++ enc 4 s.channel ++ eights [s.round, s.m0, s.m1, s.t0, s.t1]) (.slice (some ⟨gn, 0, none⟩) 1 1) [UInt8.ofNat s.conds.length] _ (hS.get 0 rfl) (by rw [Hl2.out]; exact hrow6) ((RowV.lit 5 1 gn 1 _ rfl (by decide)).read (hS.get 3 rfl)) (by rw [Hl2.out]; simp; omega)
                refine owp_call rfl (by kernel_rfl) (args := #[.slice a6 (l.length + 44) c6, .slice (some ⟨gn, 0, none⟩) 1 1]) rfl hcall ?_
                clear hcall
                rintro e w7 ⟨v7, x7, rfl, hrow7, hc⟩
                rw [Hfin.out] at hrow7
                replace hS := hS.call1 (N := []) 0 rfl hc
                try simp only [List.cons_append, List.nil_append, List.append_nil, List.set_cons_zero, List.set_cons_succ] at hS
                clear hc
                obtain ⟨a7, c7, rfl⟩ := hrow7.isSl
                refine ⟨_, rfl, ?_⟩
                refine hK.out _ _ ⟨(hS.get 1 rfl).cell 0 G0.out, (hS.get 1 rfl).cell 1 G1.out, (hS.get 1 rfl).cell 2 G2.out, (hS.get 1 rfl).cell 3 G3.out, (hS.get 1 rfl).cell 4 G4.out, (hS.get 1 rfl).cell 5 G5.out, (hS.get 1 rfl).cell 6 G6.out⟩ (fun hHeld => ?_)
                clear hK K
                simp only [Act.put, List.setIfInBounds_toArray, List.set_cons_succ, List.set_cons_zero]
                refine htake (i := 27) (v := (.slice a7 (l ++ layStateHead s).length c7)) rfl (by kernel_rfl) (by kernel_rfl) (by kernel_rfl) (fun _ _ _ h => h) (Or.inl ⟨by rfl, by (intro w hSw; (try dsimp only at hSw); (try obtain ⟨h0, h1, h2, h3, h4, h5, h6⟩ := hSw); go_simp; try with_reducible rfl)⟩) (by assumption) ?_; simp only [Act.put, List.setIfInBounds_toArray, List.set_cons_succ, List.set_cons_zero]
                refine wpAnyH_done (by kernel_rfl) ?_ _
                clear hHeld
                replace hS := hS.pick [0, 1, 4, 2, 3] rfl (by decide)
                go_wp2_with fail
                go_meet
                exact ⟨x7, hrow7, hS.pick [0, 1] rfl (by decide)⟩
              exact AllReadyH.nil
            exact AllReadyH.nil
          exact AllReadyH.nil
        exact AllReadyH.nil
      exact AllReadyH.nil
    refine hcons rfl rfl (fun K hK => ?_) ?_
    · clear hHeld
      refine owp_bslice1 (vs := [.int .u8 _]) hS rfl rfl (by rfl) (by decide) ?_
      clear hS; intro gn _ hS; try simp only [List.cons_append, List.nil_append, List.append_nil, List.set_cons_zero, List.set_cons_succ] at hS
      refine hK.out _ _ ⟨(hS.get 1 rfl).cell 0 G0.out, (hS.get 1 rfl).cell 1 G1.out, (hS.get 1 rfl).cell 2 G2.out, (hS.get 1 rfl).cell 3 G3.out, (hS.get 1 rfl).cell 4 G4.out, (hS.get 1 rfl).cell 5 G5.out, (hS.get 1 rfl).cell 6 G6.out⟩ (fun hHeld => ?_)
      clear hK K
      simp only [Act.put, List.setIfInBounds_toArray, List.set_cons_succ, List.set_cons_zero]
      refine wpAnyH_ready (rs := [3, 19]) (by kernel_rfl) (by simp) ?_
      refine hcons rfl rfl (fun K hK => ?_) ?_
      · clear hHeld
        refine owp_bslice1 (vs := [.int .u32 _]) hS rfl rfl (by rfl) (by decide) ?_
        clear hS; intro gk _ hS; try simp only [List.cons_append, List.nil_append, List.append_nil, List.set_cons_zero, List.set_cons_succ] at hS
        refine hK.out _ _ ⟨(hS.get 1 rfl).cell 0 G0.out, (hS.get 1 rfl).cell 1 G1.out, (hS.get 1 rfl).cell 2 G2.out, (hS.get 1 rfl).cell 3 G3.out, (hS.get 1 rfl).cell 4 G4.out, (hS.get 1 rfl).cell 5 G5.out, (hS.get 1 rfl).cell 6 G6.out⟩ (fun hHeld => ?_)
        clear hK K
        simp only [Act.put, List.setIfInBounds_toArray, List.set_cons_succ, List.set_cons_zero]
        refine wpAnyH_ready (rs := [4, 19]) (by kernel_rfl) (by simp) ?_
        refine hcons rfl rfl (fun K hK => ?_) ?_
        · clear hHeld
          have hcall := ofour_ok x (.slice a0 l.length c0) l (.slice (some ⟨gk, 0, none⟩) 1 1) [s.channel] _ (hS.get 0 rfl) Hv.out ((RowV.lit 26 1 gk 1 [.int .u32 s.channel] rfl (by decide)).read (hS.get 3 rfl)) (hS.apart 0 3 rfl rfl (by decide)) H4.out (by omega) (by simp)
          refine owp_call rfl (by kernel_rfl) (args := #[.slice a0 l.length c0, .slice (some ⟨gk, 0, none⟩) 1 1]) rfl hcall ?_
          clear hcall
          rintro e w5 ⟨v5, x5, rfl, hrow5, hc⟩
          rw [fours_one, Hl1.out] at hrow5
          replace hS := hS.call1 (N := []) 0 rfl hc
          try simp only [List.cons_append, List.nil_append, List.append_nil, List.set_cons_zero, List.set_cons_succ] at hS
          clear hc
          obtain ⟨a5, c5, rfl⟩ := hrow5.isSl
          refine ⟨_, rfl, ?_⟩
          refine hK.out _ _ ⟨(hS.get 1 rfl).cell 0 G0.out, (hS.get 1 rfl).cell 1 G1.out, (hS.get 1 rfl).cell 2 G2.out, (hS.get 1 rfl).cell 3 G3.out, (hS.get 1 rfl).cell 4 G4.out, (hS.get 1 rfl).cell 5 G5.out, (hS.get 1 rfl).cell 6 G6.out⟩ (fun hHeld => ?_)
          clear hK K
          simp only [Act.put, List.setIfInBounds_toArray, List.set_cons_succ, List.set_cons_zero]
          refine wpAnyH_ready (rs := [19]) (by kernel_rfl) (by simp) ?_
          refine hcons rfl rfl (fun K hK => ?_) ?_
          · clear hHeld
            refine owp_bslice5 hS rfl rfl rfl rfl rfl rfl rfl rfl rfl rfl rfl ?_
            clear hS; intro gm _ hS; try simp only [List.cons_append, List.nil_append, List.append_nil, List.set_cons_zero, List.set_cons_succ] at hS
            refine hK.out _ _ ⟨(hS.get 1 rfl).cell 0 G0.out, (hS.get 1 rfl).cell 1 G1.out, (hS.get 1 rfl).cell 2 G2.out, (hS.get 1 rfl).cell 3 G3.out, (hS.get 1 rfl).cell 4 G4.out, (hS.get 1 rfl).cell 5 G5.out, (hS.get 1 rfl).cell 6 G6.out⟩ (fun hHeld => ?_)
            clear hK K
            simp only [Act.put, List.setIfInBounds_toArray, List.set_cons_succ, List.set_cons_zero]
            refine wpAnyH_ready (rs := [20]) (by kernel_rfl) (by simp) ?_
            refine hcons rfl rfl (fun K hK => ?_) ?_
            · clear hHeld
              have hcall := oeight_ok x5 (.slice a5 (l.length + 4) c5) (l ++ enc 4 s.channel) (.slice (some ⟨gm, 0, none⟩) 5 5) [s.round, s.m0, s.m1, s.t0, s.t1] _ (hS.get 0 rfl) (by rw [Hl1.out]; exact hrow5) ((RowV.lit 27 1 gm 5 [.int .u64 s.round, .int .u64 s.m0, .int .u64 s.m1, .int .u64 s.t0, .int .u64 s.t1] rfl (by decide)).read (hS.get 4 rfl)) (hS.apart 0 4 rfl rfl (by decide)) H8.out (by rw [Hl1.out]; omega) (by simp)
              refine owp_call rfl (by kernel_rfl) (args := #[.slice a5 (l.length + 4) c5, .slice (some ⟨gm, 0, none⟩) 5 5]) rfl hcall ?_
              clear hcall
              rintro e w6 ⟨v6, x6, rfl, hrow6, hc⟩
              rw [Hl2.out] at hrow6
              replace hS := hS.call1 (N := []) 0 rfl hc
              try simp only [List.cons_append, List.nil_append, List.append_nil, List.set_cons_zero, List.set_cons_succ] at hS
              clear hc
              obtain ⟨a6, c6, rfl⟩ := hrow6.isSl
              refine ⟨_, rfl, ?_⟩
              refine hK.out _ _ ⟨(hS.get 1 rfl).cell 0 G0.out, (hS.get 1 rfl).cell 1 G1.out, (hS.get 1 rfl).cell 2 G2.out, (hS.get 1 rfl).cell 3 G3.out, (hS.get 1 rfl).cell 4 G4.out, (hS.get 1 rfl).cell 5 G5.out, (hS.get 1 rfl).cell 6 G6.out⟩ (fun hHeld => ?_)
              clear hK K
              simp only [Act.put, List.setIfInBounds_toArray, List.set_cons_succ, List.set_cons_zero]
              refine wpAnyH_ready (rs := [26]) (by kernel_rfl) (by simp) ?_
              refine hcons rfl rfl (fun K hK => ?_) ?_
              · clear hHeld
                rw [← Hb.out] at hS
                have hcall := oone_ok x6 (.slice a6 (l.length + 44) c6) (l ++ enc 4 s.channel ++ eights [s.round, s.m0, s.m1, s.t0, s.t1]) (.slice (some ⟨gn, 0, none⟩) 1 1) [UInt8.ofNat s.conds.length] _ (hS.get 0 rfl) (by rw [Hl2.out]; exact hrow6) ((RowV.lit 5 1 gn 1 _ rfl (by decide)).read (hS.get 2 rfl)) (by rw [Hl2.out]; simp; omega)
                refine owp_call rfl (by kernel_rfl) (args := #[.slice a6 (l.length + 44) c6, .slice (some ⟨gn, 0, none⟩) 1 1]) rfl hcall ?_
                clear hcall
                rintro e w7 ⟨v7, x7, rfl, hrow7, hc⟩
                rw [Hfin.out] at hrow7
                replace hS := hS.call1 (N := []) 0 rfl hc
                try simp only [List.cons_append, List.nil_append, List.append_nil, List.set_cons_zero, List.set_cons_succ] at hS
                clear hc
                obtain ⟨a7, c7, rfl⟩ := hrow7.isSl
                refine ⟨_, rfl, ?_⟩
                refine hK.out _ _ ⟨(hS.get 1 rfl).cell 0 G0.out, (hS.get 1 rfl).cell 1 G1.out, (hS.get 1 rfl).cell 2 G2.out, (hS.get 1 rfl).cell 3 G3.out, (hS.get 1 rfl).cell 4 G4.out, (hS.get 1 rfl).cell 5 G5.out, (hS.get 1 rfl).cell 6 G6.out⟩ (fun hHeld => ?_)
                clear hK K
                simp only [Act.put, List.setIfInBounds_toArray, List.set_cons_succ, List.set_cons_zero]
                refine htake (i := 27) (v := (.slice a7 (l ++ layStateHead s).length c7)) rfl (by kernel_rfl) (by kernel_rfl) (by kernel_rfl) (fun _ _ _ h => h) (Or.inl ⟨by rfl, by (intro w hSw; (try dsimp only at hSw); (try obtain ⟨h0, h1, h2, h3, h4, h5, h6⟩ := hSw); go_simp; try with_reducible rfl)⟩) (by assumption) ?_; simp only [Act.put, List.setIfInBounds_toArray, List.set_cons_succ, List.set_cons_zero]
                refine wpAnyH_done (by kernel_rfl) ?_ _
                clear hHeld
                replace hS := hS.pick [0, 1, 3, 4, 2] rfl (by decide)
                go_wp2_with fail
                go_meet
                exact ⟨x7, hrow7, hS.pick [0, 1] rfl (by decide)⟩
              exact AllReadyH.nil
            exact AllReadyH.nil
          exact AllReadyH.nil
        refine hcons rfl rfl (fun K hK => ?_) ?_
        · clear hHeld
          refine owp_bslice5 hS rfl rfl rfl rfl rfl rfl rfl rfl rfl rfl rfl ?_
          clear hS; intro gm _ hS; try simp only [List.cons_append, List.nil_append, List.append_nil, List.set_cons_zero, List.set_cons_succ] at hS
          refine hK.out _ _ ⟨(hS.get 1 rfl).cell 0 G0.out, (hS.get 1 rfl).cell 1 G1.out, (hS.get 1 rfl).cell 2 G2.out, (hS.get 1 rfl).cell 3 G3.out, (hS.get 1 rfl).cell 4 G4.out, (hS.get 1 rfl).cell 5 G5.out, (hS.get 1 rfl).cell 6 G6.out⟩ (fun hHeld => ?_)
          clear hK K
          simp only [Act.put, List.setIfInBounds_toArray, List.set_cons_succ, List.set_cons_zero]
          refine wpAnyH_ready (rs := [4]) (by kernel_rfl) (by simp) ?_
          refine hcons rfl rfl (fun K hK => ?_) ?_
          · clear hHeld
            have hcall := ofour_ok x (.slice a0 l.length c0) l (.slice (some ⟨gk, 0, none⟩) 1 1) [s.channel] _ (hS.get 0 rfl) Hv.out ((RowV.lit 26 1 gk 1 [.int .u32 s.channel] rfl (by decide)).read (hS.get 3 rfl)) (hS.apart 0 3 rfl rfl (by decide)) H4.out (by omega) (by simp)
            refine owp_call rfl (by kernel_rfl) (args := #[.slice a0 l.length c0, .slice (some ⟨gk, 0, none⟩) 1 1]) rfl hcall ?_
            clear hcall
            rintro e w5 ⟨v5, x5, rfl, hrow5, hc⟩
            rw [fours_one, Hl1.out] at hrow5
            replace hS := hS.call1 (N := []) 0 rfl hc
            try simp only [List.cons_append, List.nil_append, List.append_nil, List.set_cons_zero, List.set_cons_succ] at hS
            clear hc
            obtain ⟨a5, c5, rfl⟩ := hrow5.isSl
            refine ⟨_, rfl, ?_⟩
            refine hK.out _ _ ⟨(hS.get 1 rfl).cell 0 G0.out, (hS.get 1 rfl).cell 1 G1.out, (hS.get 1 rfl).cell 2 G2.out, (hS.get 1 rfl).cell 3 G3.out, (hS.get 1 rfl).cell 4 G4.out, (hS.get 1 rfl).cell 5 G5.out, (hS.get 1 rfl).cell 6 G6.out⟩ (fun hHeld => ?_)
            clear hK K
            simp only [Act.put, List.setIfInBounds_toArray, List.set_cons_succ, List.set_cons_zero]
            refine wpAnyH_ready (rs := [20]) (by kernel_rfl) (by simp) ?_
            refine hcons rfl rfl (fun K hK => ?_) ?_
            · clear hHeld
              have hcall := oeight_ok x5 (.slice a5 (l.length + 4) c5) (l ++ enc 4 s.channel) (.slice (some ⟨gm, 0, none⟩) 5 5) [s.round, s.m0, s.m1, s.t0, s.t1] _ (hS.get 0 rfl) (by rw [Hl1.out]; exact hrow5) ((RowV.lit 27 1 gm 5 [.int .u64 s.round, .int .u64 s.m0, .int .u64 s.m1, .int .u64 s.t0, .int .u64 s.t1] rfl (by decide)).read (hS.get 4 rfl)) (hS.apart 0 4 rfl rfl (by decide)) H8.out (by rw [Hl1.out]; omega) (by simp)
              refine owp_call rfl (by kernel_rfl) (args := #[.slice a5 (l.length + 4) c5, .slice (some ⟨gm, 0, none⟩) 5 5]) rfl hcall ?_
              clear hcall
              rintro e w6 ⟨v6, x6, rfl, hrow6, hc⟩
              rw [Hl2.out] at hrow6
              replace hS := hS.call1 (N := []) 0 rfl hc
              try simp only [List.cons_append, List.nil_append, List.append_nil, List.set_cons_zero, List.set_cons_succ] at hS
              clear hc
              obtain ⟨a6, c6, rfl⟩ := hrow6.isSl
              refine ⟨_, rfl, ?_⟩
              refine hK.out _ _ ⟨(hS.get 1 rfl).cell 0 G0.out, (hS.get 1 rfl).cell 1 G1.out, (hS.get 1 rfl).cell 2 G2.out, (hS.get 1 rfl).cell 3 G3.out, (hS.get 1 rfl).cell 4 G4.out, (hS.get 1 rfl).cell 5 G5.out, (hS.get 1 rfl).cell 6 G6.out⟩ (fun hHeld => ?_)
              clear hK K
              simp only [Act.put, List.setIfInBounds_toArray, List.set_cons_succ, List.set_cons_zero]
              refine wpAnyH_ready (rs := [26]) (by kernel_rfl) (by simp) ?_
              refine hcons rfl rfl (fun K hK => ?_) ?_
              · clear hHeld
                rw [← Hb.out] at hS
                have hcall := oone_ok x6 (.slice a6 (l.length + 44) c6) (l ++ enc 4 s.channel ++ eights [s.round, s.m0, s.m1, s.t0, s.t1]) (.slice (some ⟨gn, 0, none⟩) 1 1) [UInt8.ofNat s.conds.length] _ (hS.get 0 rfl) (by rw [Hl2.out]; exact hrow6) ((RowV.lit 5 1 gn 1 _ rfl (by decide)).read (hS.get 2 rfl)) (by rw [Hl2.out]; simp; omega)
                refine owp_call rfl (by kernel_rfl) (args := #[.slice a6 (l.length + 44) c6, .slice (some ⟨gn, 0, none⟩) 1 1]) rfl hcall ?_
                clear hcall
                rintro e w7 ⟨v7, x7, rfl, hrow7, hc⟩
                rw [Hfin.out] at hrow7
                replace hS := hS.call1 (N := []) 0 rfl hc
                try simp only [List.cons_append, List.nil_append, List.append_nil, List.set_cons_zero, List.set_cons_succ] at hS
                clear hc
                obtain ⟨a7, c7, rfl⟩ := hrow7.isSl
                refine ⟨_, rfl, ?_⟩
                refine hK.out _ _ ⟨(hS.get 1 rfl).cell 0 G0.out, (hS.get 1 rfl).cell 1 G1.out, (hS.get 1 rfl).cell 2 G2.out, (hS.get 1 rfl).cell 3 G3.out, (hS.get 1 rfl).cell 4 G4.out, (hS.get 1 rfl).cell 5 G5.out, (hS.get 1 rfl).cell 6 G6.out⟩ (fun hHeld => ?_)
                clear hK K
                simp only [Act.put, List.setIfInBounds_toArray, List.set_cons_succ, List.set_cons_zero]
                refine htake (i := 27) (v := (.slice a7 (l ++ layStateHead s).length c7)) rfl (by kernel_rfl) (by kernel_rfl) (by kernel_rfl) (fun _ _ _ h => h) (Or.inl ⟨by rfl, by (intro w hSw; (try dsimp only at hSw); (try obtain ⟨h0, h1, h2, h3, h4, h5, h6⟩ := hSw); go_simp; try with_reducible rfl)⟩) (by assumption) ?_; simp only [Act.put, List.setIfInBounds_toArray, List.set_cons_succ, List.set_cons_zero]
                refine wpAnyH_done (by kernel_rfl) ?_ _
                clear hHeld
                replace hS := hS.pick [0, 1, 3, 4, 2] rfl (by decide)
                go_wp2_with fail
                go_meet
                exact ⟨x7, hrow7, hS.pick [0, 1] rfl (by decide)⟩
              exact AllReadyH.nil
            exact AllReadyH.nil
          exact AllReadyH.nil
        exact AllReadyH.nil
      refine hcons rfl rfl (fun K hK => ?_) ?_
      · clear hHeld
        refine owp_bslice5 hS rfl rfl rfl rfl rfl rfl rfl rfl rfl rfl rfl ?_
        clear hS; intro gm _ hS; try simp only [List.cons_append, List.nil_append, List.append_nil, List.set_cons_zero, List.set_cons_succ] at hS
        refine hK.out _ _ ⟨(hS.get 1 rfl).cell 0 G0.out, (hS.get 1 rfl).cell 1 G1.out, (hS.get 1 rfl).cell 2 G2.out, (hS.get 1 rfl).cell 3 G3.out, (hS.get 1 rfl).cell 4 G4.out, (hS.get 1 rfl).cell 5 G5.out, (hS.get 1 rfl).cell 6 G6.out⟩ (fun hHeld => ?_)
        clear hK K
        simp only [Act.put, List.setIfInBounds_toArray, List.set_cons_succ, List.set_cons_zero]
        refine wpAnyH_ready (rs := [3]) (by kernel_rfl) (by simp) ?_
        refine hcons rfl rfl (fun K hK => ?_) ?_
        · clear hHeld
          refine owp_bslice1 (vs := [.int .u32 _]) hS rfl rfl (by rfl) (by decide) ?_
          clear hS; intro gk _ hS; try simp only [List.cons_append, List.nil_append, List.append_nil, List.set_cons_zero, List.set_cons_succ] at hS
          refine hK.out _ _ ⟨(hS.get 1 rfl).cell 0 G0.out, (hS.get 1 rfl).cell 1 G1.out, (hS.get 1 rfl).cell 2 G2.out, (hS.get 1 rfl).cell 3 G3.out, (hS.get 1 rfl).cell 4 G4.out, (hS.get 1 rfl).cell 5 G5.out, (hS.get 1 rfl).cell 6 G6.out⟩ (fun hHeld => ?_)
          clear hK K
          simp only [Act.put, List.setIfInBounds_toArray, List.set_cons_succ, List.set_cons_zero]
          refine wpAnyH_ready (rs := [4]) (by kernel_rfl) (by simp) ?_
          refine hcons rfl rfl (fun K hK => ?_) ?_
          · clear hHeld
            have hcall := ofour_ok x (.slice a0 l.length c0) l (.slice (some ⟨gk, 0, none⟩) 1 1) [s.channel] _ (hS.get 0 rfl) Hv.out ((RowV.lit 26 1 gk 1 [.int .u32 s.channel] rfl (by decide)).read (hS.get 4 rfl)) (hS.apart 0 4 rfl rfl (by decide)) H4.out (by omega) (by simp)
            refine owp_call rfl (by kernel_rfl) (args := #[.slice a0 l.length c0, .slice (some ⟨gk, 0, none⟩) 1 1]) rfl hcall ?_
            clear hcall
            rintro e w5 ⟨v5, x5, rfl, hrow5, hc⟩
            rw [fours_one, Hl1.out] at hrow5
            replace hS := hS.call1 (N := []) 0 rfl hc
            try simp only [List.cons_append, List.nil_append, List.append_nil, List.set_cons_zero, List.set_cons_succ] at hS
            clear hc
            obtain ⟨a5, c5, rfl⟩ := hrow5.isSl
            refine ⟨_, rfl, ?_⟩
            refine hK.out _ _ ⟨(hS.get 1 rfl).cell 0 G0.out, (hS.get 1 rfl).cell 1 G1.out, (hS.get 1 rfl).cell 2 G2.out, (hS.get 1 rfl).cell 3 G3.out, (hS.get 1 rfl).cell 4 G4.out, (hS.get 1 rfl).cell 5 G5.out, (hS.get 1 rfl).cell 6 G6.out⟩ (fun hHeld => ?_)
            clear hK K
            simp only [Act.put, List.setIfInBounds_toArray, List.set_cons_succ, List.set_cons_zero]
            refine wpAnyH_ready (rs := [20]) (by kernel_rfl) (by simp) ?_
            refine hcons rfl rfl (fun K hK => ?_) ?_
            · clear hHeld
              have hcall := oeight_ok x5 (.slice a5 (l.length + 4) c5) (l ++ enc 4 s.channel) (.slice (some ⟨gm, 0, none⟩) 5 5) [s.round, s.m0, s.m1, s.t0, s.t1] _ (hS.get 0 rfl) (by rw [Hl1.out]; exact hrow5) ((RowV.lit 27 1 gm 5 [.int .u64 s.round, .int .u64 s.m0, .int .u64 s.m1, .int .u64 s.t0, .int .u64 s.t1] rfl (by decide)).read (hS.get 3 rfl)) (hS.apart 0 3 rfl rfl (by decide)) H8.out (by rw [Hl1.out]; omega) (by simp)
              refine owp_call rfl (by kernel_rfl) (args := #[.slice a5 (l.length + 4) c5, .slice (some ⟨gm, 0, none⟩) 5 5]) rfl hcall ?_
              clear hcall
              rintro e w6 ⟨v6, x6, rfl, hrow6, hc⟩
              rw [Hl2.out] at hrow6
              replace hS := hS.call1 (N := []) 0 rfl hc
              try simp only [List.cons_append, List.nil_append, List.append_nil, List.set_cons_zero, List.set_cons_succ] at hS
              clear hc
              obtain ⟨a6, c6, rfl⟩ := hrow6.isSl
              refine ⟨_, rfl, ?_⟩
              refine hK.out _ _ ⟨(hS.get 1 rfl).cell 0 G0.out, (hS.get 1 rfl).cell 1 G1.out, (hS.get 1 rfl).cell 2 G2.out, (hS.get 1 rfl).cell 3 G3.out, (hS.get 1 rfl).cell 4 G4.out, (hS.get 1 rfl).cell 5 G5.out, (hS.get 1 rfl).cell 6 G6.out⟩ (fun hHeld => ?_)
              clear hK K
              simp only [Act.put, List.setIfInBounds_toArray, List.set_cons_succ, List.set_cons_zero]
              refine wpAnyH_ready (rs := [26]) (by kernel_rfl) (by simp) ?_
              refine hcons rfl rfl (fun K hK => ?_) ?_
              · clear hHeld
                rw [← Hb.out] at hS
                have hcall := oone_ok x6 (.slice a6 (l.length + 44) c6) (l ++ enc 4 s.channel ++ eights [s.round, s.m0, s.m1, s.t0, s.t1]) (.slice (some ⟨gn, 0, none⟩) 1 1) [UInt8.ofNat s.conds.length] _ (hS.get 0 rfl) (by rw [Hl2.out]; exact hrow6) ((RowV.lit 5 1 gn 1 _ rfl (by decide)).read (hS.get 2 rfl)) (by rw [Hl2.out]; simp; omega)
                refine owp_call rfl (by kernel_rfl) (args := #[.slice a6 (l.length + 44) c6, .slice (some ⟨gn, 0, none⟩) 1 1]) rfl hcall ?_
                clear hcall
                rintro e w7 ⟨v7, x7, rfl, hrow7, hc⟩
                rw [Hfin.out] at hrow7
                replace hS := hS.call1 (N := []) 0 rfl hc
                try simp only [List.cons_append, List.nil_append, List.append_nil, List.set_cons_zero, List.set_cons_succ] at hS
                clear hc
                obtain ⟨a7, c7, rfl⟩ := hrow7.isSl
                refine ⟨_, rfl, ?_⟩
                refine hK.out _ _ ⟨(hS.get 1 rfl).cell 0 G0.out, (hS.get 1 rfl).cell 1 G1.out, (hS.get 1 rfl).cell 2 G2.out, (hS.get 1 rfl).cell 3 G3.out, (hS.get 1 rfl).cell 4 G4.out, (hS.get 1 rfl).cell 5 G5.out, (hS.get 1 rfl).cell 6 G6.out⟩ (fun hHeld => ?_)
                clear hK K
                simp only [Act.put, List.setIfInBounds_toArray, List.set_cons_succ, List.set_cons_zero]
                refine htake (i := 27) (v := (.slice a7 (l ++ layStateHead s).length c7)) rfl (by kernel_rfl) (by kernel_rfl) (by kernel_rfl) (fun _ _ _ h => h) (Or.inl ⟨by rfl, by (intro w hSw; (try dsimp only at hSw); (try obtain ⟨h0, h1, h2, h3, h4, h5, h6⟩ := hSw); go_simp; try with_reducible rfl)⟩) (by assumption) ?_; simp only [Act.put, List.setIfInBounds_toArray, List.set_cons_succ, List.set_cons_zero]
                refine wpAnyH_done (by kernel_rfl) ?_ _
                clear hHeld
                replace hS := hS.pick [0, 1, 4, 3, 2] rfl (by decide)
                go_wp2_with fail
                go_meet
                exact ⟨x7, hrow7, hS.pick [0, 1] rfl (by decide)⟩
              exact AllReadyH.nil
            exact AllReadyH.nil
          exact AllReadyH.nil
        exact AllReadyH.nil
      exact AllReadyH.nil
    exact AllReadyH.nil
  case rest =>
    clear hS
    obtain ⟨x6, hrow, hS⟩ := hcut
    clear hwi hwm
    go_wp2_with (first | ((with_reducible show wpList _ _ _ (Oper.mk _ (Op.load _ _) _ _ _ _ :: _) _ _); refine wpl rfl ?_; refine owp_load1 hS 1 rfl rfl rfl G6.out ?_))
    go_loopw [0, 6, 37] (fun o _ i wr => ∃ (j : Nat) (x' : Ent), j ≤ s.conds.length ∧ i = .int .i64 j ∧ RowV 5 1 o (l ++ layStateHead s ++ (s.conds.take j).flatMap layCond).length (bs (l ++ layStateHead s ++ (s.conds.take j).flatMap layCond)) x' ∧ St w (keys [x]) wr [x', some (gs, cs, 31)]) (fun _ _ i _ => s.conds.length - (intOf i).toNat)
    case atStart => exact ⟨0, x6, Nat.zero_le _, rfl, by simpa using hrow, hS⟩
    case round =>
      clear hS hrow
      obtain ⟨j, x', hj, rfl, hrow, hS⟩ := hrel
      obtain ⟨a6, c6, rfl⟩ := hrow.isSl
      by_cases hlt : j < s.conds.length
      · obtain ⟨g, off, rfl, hcs⟩ := (Hc.out.st hS hd.not).cellsAt j hlt
        rw [condCells_drop s.conds Hhash.out j hlt] at hcs
        have hlen : (l ++ layStateHead s ++ (s.conds.take j).flatMap layCond).length ≤ 50000000 := by
          rw [List.length_append, Hhl.out, layConds_len _ (fun c hcm => Hhash.out c (List.mem_of_mem_take hcm)), List.length_take]; omega
        have hok := Hok.out _ (List.getElem_mem hlt)
        have Hstep := Lib.hid (show l ++ layStateHead s ++ (s.conds.take (j + 1)).flatMap layCond = (l ++ layStateHead s ++ (s.conds.take j).flatMap layCond) ++ layCond s.conds[j] by
          rw [List.take_succ_eq_append_getElem hlt, List.flatMap_append]; simp [List.append_assoc])
        have Hcl := Lib.hid (Cond.len s.conds[j] hok.hash)
        have Hcall := Lib.hid (fun v w' h1 h2 => layCond_ok s.conds[j] hok x' v (l ++ layStateHead s ++ (s.conds.take j).flatMap layCond) w' h1 h2 hlen)
        clear hok hlen
        generalize s.conds[j] = c at *
        generalize l ++ layStateHead s ++ (s.conds.take j).flatMap layCond = l2 at *
        go_wp2_with (first
          | ((with_reducible show wpList _ _ _ (Oper.mk (some 40) (Op.load _ _) _ _ _ _ :: _) _ _); refine wpl rfl ?_; refine owp_loadR rfl rfl hcs Hcl.out ?_)
          | ((with_reducible show wpList _ _ _ (Oper.mk (some 6) (Op.alloc _) _ _ _ _ :: _) _ _); refine wpl rfl ?_; refine (owp_allocAt hS 6 rfl rfl ?_); clear hS; intro gc _ hS; simp only [List.cons_append, List.nil_append] at hS)
          | ((with_reducible show wpList _ _ _ (Oper.mk _ (Op.store _ _ _) _ _ _ _ :: _) _ _); refine wpl rfl ?_; refine (owp_storeW hS 2 rfl rfl rfl rfl (Hcl.out) (Cond.len Cond.zero (zb_length 32)) (Cond.one _) ?_); clear hS; intro _ hS; try simp only [List.cons_append, List.nil_append, List.append_nil, List.set_cons_zero, List.set_cons_succ] at hS)
          | ((with_reducible show wpList _ _ _ (Oper.mk (some 42) (Op.load _ _) _ _ _ _ :: _) _ _); refine wpl rfl ?_; refine owp_loadW hS 2 rfl rfl rfl Hcl.out ?_))
        refine (Hcall.out _ _ (hS.get 0 rfl) hrow).mono ?_
        rintro e w3 ⟨v7, x7, rfl, hrow7, hc⟩
        replace hS := hS.call1 (N := []) 0 rfl hc
        try simp only [List.cons_append, List.nil_append, List.append_nil, List.set_cons_zero, List.set_cons_succ] at hS
        clear hc
        go_wp2_with fail
        go_roundw
        case rel =>
          refine ⟨j + 1, x7, by omega, by go_num, ?_, hS.pick [0, 1] rfl (by decide)⟩
          rw [Hstep.out]
          exact hrow7
        case measure => simp [intOf]; omega
      · have hjk : j = s.conds.length := by omega
        subst hjk
        rw [List.take_length] at hrow ⊢
        go_wp2_with fail
        go_ret
        refine ⟨_, x', rfl, ?_, hS.pick [0] rfl (by decide)⟩
        rw [Hall.out]
        exact hrow

end Go.Proofs.Ytldmkafobbemjaa
