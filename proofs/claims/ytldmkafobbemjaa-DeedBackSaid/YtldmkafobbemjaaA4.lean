/-
  A lamp's signature, as it is taken off bytes by the program.
  A ring's signature, as it is taken off bytes by the program.
-/
import Derived.Test.YtldmkafobbemjaaA3
namespace Go.Proofs.Ytldmkafobbemjaa
set_option linter.unusedSimpArgs false
set_option linter.unusedVariables false
open Go Go.RowKit
set_option maxRecDepth 100000
set_option maxHeartbeats 2000000

theorem splice_bs (P : List Value) (S : List UInt8) (n : Nat) (x : List UInt8) (R : List Value) (off m : Nat) (hoff : off = P.length + S.length) (hm : x.length = m) (hx : m ≤ n) :
    (P ++ bs (S ++ zb n) ++ R).take off ++ bs x ++ (P ++ bs (S ++ zb n) ++ R).drop (off + m) = P ++ bs ((S ++ x) ++ zb (n - m)) ++ R := by
  subst hoff hm
  have e1 : (P ++ bs (S ++ zb n) ++ R) = (P ++ bs S) ++ (bs (zb n) ++ R) := by simp [bs_append]
  have l1 : (P ++ bs S).length = P.length + S.length := by simp [bs_length]
  have e2 : bs (zb n) = bs (zb x.length) ++ bs (zb (n - x.length)) := by
    rw [← bs_append]
    congr 1
    simp only [zb, List.replicate_append_replicate]
    congr 1
    omega
  rw [e1, ← l1, List.take_left', List.drop_append]
  · rw [List.drop_eq_nil_of_le (by omega), e2]
    have l2 : (bs (zb x.length)).length = x.length := by simp [bs_length, zb]
    have e3 : (P ++ bs S).length + x.length - (P ++ bs S).length = (bs (zb x.length)).length := by omega
    rw [e3, List.append_assoc (bs (zb x.length)), List.drop_left' rfl]
    simp [bs_append]
  · rfl

theorem splice_bs0 (S : List UInt8) (n : Nat) (x : List UInt8) (R : List Value) (off m : Nat) (hoff : off = S.length) (hm : x.length = m) (hx : m ≤ n) :
    (bs (S ++ zb n) ++ R).take off ++ bs x ++ (bs (S ++ zb n) ++ R).drop (off + m) = bs ((S ++ x) ++ zb (n - m)) ++ R := splice_bs [] S n x R off m (by simp [hoff]) hm hx
theorem splice_bs1 (P : List Value) (S : List UInt8) (n : Nat) (x : List UInt8) (off m : Nat) (hoff : off = P.length + S.length) (hm : x.length = m) (hx : m ≤ n) :
    (P ++ bs (S ++ zb n)).take off ++ bs x ++ (P ++ bs (S ++ zb n)).drop (off + m) = P ++ bs ((S ++ x) ++ zb (n - m)) := by
  have := splice_bs P S n x [] off m hoff hm hx
  simpa using this
theorem RowR.part {w : World} {g : Nat} {cs : List Value} {T : TypeId} (hH : Holds w (some (g, cs, T))) (off n cap : Nat) (xs : List Value) (h : (cs.drop off).take n = xs) (hl : xs.length = n) (hc : n ≤ cap) :
    RowR w 1 (.slice (some ⟨g, off, none⟩) n cap) n xs := by
  refine ⟨by simpa using hl, .inr ⟨_, cap, rfl, hc, .inr rfl, ?_⟩⟩
  subst h
  have := CellsAt.row (off := off) (n := n) (hH _ _ _ rfl)
  simpa using this
theorem zb32_len : (bs (zb 32)).length = 32 := by simp [bs_length, zb]
theorem LSig.len (l : LSig) (h1 : l.shown.length = 512) (h2 : l.other.length = 512) : l.cells.length = 1024 := by simp [LSig.cells, bs_length, h1, h2]
theorem LSig.one (l : LSig) : ∀ v, v ∈ l.cells → v.oneCell' = true := by
  intro v hv
  rcases List.mem_append.1 hv with h | h <;> exact bs_one _ v h

theorem flat_len (l : List (List UInt8)) (f : List UInt8 → List UInt8) (m : Nat) (h : ∀ x, x ∈ l → (f x).length = m) : (l.flatMap f).length = l.length * m := by
  induction l with
  | nil => simp
  | cons x l ih =>
    rw [List.flatMap_cons, List.length_append, h x (by simp), ih (fun y hy => h y (by simp [hy])), List.length_cons, Nat.add_mul]
    omega

theorem times_sum_len (n : Nat) (s : PS) : ∀ x, x ∈ (times PS.sum n s).1 → x.length = 32 := by
  induction n with
  | zero => intro x hx; rw [times_zero] at hx; cases hx
  | succ n ih =>
    intro x hx
    simp only [times_succ, List.mem_append, List.mem_singleton] at hx
    rcases hx with h | rfl
    · exact ih x h
    · exact sum_len _

def shownOf (k : Nat) (s : PS) : List UInt8 := (times PS.sum k s).1.flatMap (·.take 16)
def otherOf (k : Nat) (s : PS) : List UInt8 := (times PS.sum k s).1.flatMap (·.drop 16)
theorem shownOf_zero (s : PS) : shownOf 0 s = [] := by simp [shownOf, times_zero]
theorem otherOf_zero (s : PS) : otherOf 0 s = [] := by simp [otherOf, times_zero]
theorem shownOf_len (k : Nat) (s : PS) : (shownOf k s).length = k * 16 := by
  unfold shownOf
  rw [flat_len _ _ 16 (fun x hx => by simp [times_sum_len k s x hx]), times_len]
theorem otherOf_len (k : Nat) (s : PS) : (otherOf k s).length = k * 16 := by
  unfold otherOf
  rw [flat_len _ _ 16 (fun x hx => by simp [times_sum_len k s x hx]), times_len]
theorem shownOf_succ (k : Nat) (s : PS) : shownOf (k + 1) s = shownOf k s ++ ((times PS.sum k s).2.sum.1).take 16 := by simp [shownOf, times_succ]
theorem otherOf_succ (k : Nat) (s : PS) : otherOf (k + 1) s = otherOf k s ++ ((times PS.sum k s).2.sum.1).drop 16 := by simp [otherOf, times_succ]

def LampPost (w : World) (b : Nat) (v : Value) (s : PS) (e : Ending) (w' : World) : Prop :=
  InPost w b v s (.agg (takeLamp s).1.cells.toArray) (takeLamp s).2 e w'

theorem takeLamp_ok (b : Nat) (v : Value) (s : PS) (w : World) (hb : Holds w (inBlk b v s.bad)) (hv : InV w b v s.rest) :
    Calls Try.prog 58 #[.pointer (some ⟨b, 0, none⟩)] w (LampPost w b v s) := by
  have hS := in_start hb
  have hsub := SubV.refl v s.rest
  have hz : LSig.zero.cells.length = 1024 := LSig.len LSig.zero (zb_length 512) (zb_length 512)
  have Hz := Lib.hid hz
  clear hz
  go_enter Try.func58, Try.ntmps58
  go_wp2_with (first | ((with_reducible show wpList _ _ _ (Oper.mk (some 2) (Op.alloc _) _ _ _ _ :: _) _ _); refine wpl rfl ?_; refine (owp_allocAt hS 2 rfl rfl ?_); clear hS; intro gr _ hS; simp only [List.cons_append, List.nil_append] at hS) | ((with_reducible show wpList _ _ _ (Oper.mk (some 3) (Op.alloc _) _ _ _ _ :: _) _ _); refine wpl rfl ?_; refine (owp_allocAt hS 3 rfl rfl ?_); clear hS; intro gs _ hS; simp only [List.cons_append, List.nil_append] at hS))
  go_loopw [6] (fun i wr => ∃ (k : Nat) (v' : Value), k ≤ 32 ∧ i = .int .i64 k ∧
      St w [b] wr [inBlk b v' (times PS.sum k s).2.bad, some (gr, LSig.zero.cells, 36), some (gs, bs (shownOf k s ++ zb (512 - k * 16)) ++ bs (otherOf k s ++ zb (512 - k * 16)), 36)] ∧ SubV v s.rest v' (times PS.sum k s).2.rest) (fun i _ => 32 - (intOf i).toNat)
  case atStart => exact ⟨0, v, by omega, rfl, by rw [times_zero, shownOf_zero, otherOf_zero]; exact hS, by rw [times_zero]; exact hsub⟩
  case round =>
    clear hS hsub
    obtain ⟨k, v', hk, rfl, hS, hsub⟩ := hrel
    by_cases hlt : k < 32
    · have H1 := Lib.hid (shownOf_succ k s)
      have H2 := Lib.hid (otherOf_succ k s)
      have L1 := Lib.hid (shownOf_len k s)
      have L2 := Lib.hid (otherOf_len k s)
      have Hst : Hid (times PS.sum (k + 1) s = ((times PS.sum k s).1 ++ [(times PS.sum k s).2.sum.1], (times PS.sum k s).2.sum.2)) := times_succ _ _ _
      generalize shownOf k s = S at *
      generalize otherOf k s = O at *
      generalize (times PS.sum k s).1 = l at *
      generalize (times PS.sum k s).2 = s2 at *
      go_wp2_with fail
      refine (sum_ok b _ _ _ (hS.get 0 rfl) ((hsub _ _ hv).st hS (.inl rfl))).mono ?_; rintro e w1 ⟨rfl, v2, hc, hsub2⟩; replace hS := hS.call1 0 rfl hc; try simp only [List.cons_append, List.nil_append, List.append_nil, List.set_cons_zero, List.set_cons_succ] at hS; replace hsub := hsub.trans hsub2; clear hc hsub2
      have Hd := Lib.hid (sum_len s2)
      generalize s2.sum.1 = d at *
      generalize s2.sum.2 = s3 at *
      have hdl : (bs d).length = 32 := by rw [bs_length, Hd.out]
      have Hdl := Lib.hid hdl
      clear hdl
      go_wp2_with (first | ((with_reducible show wpList _ _ _ (Oper.mk (some 5) (Op.alloc _) _ _ _ _ :: _) _ _); refine wpl rfl ?_; refine (owp_allocAt hS 5 rfl rfl ?_); clear hS; intro gd _ hS; simp only [List.cons_append, List.nil_append] at hS) | ((with_reducible show wpList _ _ _ (Oper.mk _ (Op.store _ _ _) _ _ _ _ :: _) _ _); refine wpl rfl ?_; refine (owp_storeW hS 3 rfl rfl rfl rfl (Hdl.out) (zb32_len) (bs_one _) ?_); clear hS; intro _ hS; try simp only [List.cons_append, List.nil_append, List.append_nil, List.set_cons_zero, List.set_cons_succ] at hS))
      simp only [Act.put, List.setIfInBounds_toArray, List.set_cons_succ, List.set_cons_zero]
      have hs1 := RowR.part (hS.drew.get 3 rfl) 0 16 32 (bs (d.take 16)) (by rw [List.drop_zero, bs_take]) (by rw [bs_length, List.length_take, Hd.out]; rfl) (by omega)
      have hle1 : (k * 16) + 16 ≤ (bs (S ++ zb (512 - k * 16)) ++ bs (O ++ zb (512 - k * 16))).length := by
        simp only [List.length_append, bs_length, zb_length, L1.out, L2.out]; omega
      have hcs1 := splice_bs0 S (512 - k * 16) (d.take 16) (bs (O ++ zb (512 - k * 16))) (k * 16) 16 (by rw [L1.out]) (by rw [List.length_take, Hd.out]; rfl) (by omega)
      have Hcs1 := Lib.hid hcs1
      clear hcs1
      go_region_law (refine rstep rfl (owp_copy hS.drew 2 rfl rfl rfl rfl hs1 (bs_one _) (by decide) hle1 Hcs1.out ?_); clear hS hs1 hle1; intro w4 hS; try simp only [List.cons_append, List.nil_append, List.append_nil, List.set_cons_zero, List.set_cons_succ] at hS)
      have hs2 := RowR.part (hS.drew.get 3 rfl) 16 16 16 (bs (d.drop 16)) (by rw [bs_drop, bs_take]; congr 1; rw [List.take_of_length_le]; rw [List.length_drop, Hd.out]; omega) (by rw [bs_length, List.length_drop, Hd.out]) (by omega)
      have hn2 : 512 - k * 16 - 16 = 512 - (k + 1) * 16 := by omega
      have hpl : (bs (S ++ List.take 16 d ++ zb (512 - k * 16 - 16))).length = 512 := by
        simp only [List.length_append, bs_length, zb_length, L1.out, List.length_take, Hd.out]; omega
      have hle2 : (512 + k * 16) + 16 ≤ (bs (S ++ List.take 16 d ++ zb (512 - k * 16 - 16)) ++ bs (O ++ zb (512 - k * 16))).length := by
        simp only [List.length_append, bs_length, zb_length, L1.out, L2.out, List.length_take, Hd.out]; omega
      have hcs2 := splice_bs1 (bs (S ++ List.take 16 d ++ zb (512 - k * 16 - 16))) O (512 - k * 16) (d.drop 16) (512 + k * 16) 16 (by rw [L2.out, hpl]) (by rw [List.length_drop, Hd.out]) (by omega)
      have Hcs2 := Lib.hid hcs2
      have Hn2 := Lib.hid hn2
      clear hcs2 hn2 hpl
      go_wp2_with fail
      go_region_law (refine rstep rfl (owp_copy hS.drew 2 rfl rfl rfl rfl hs2 (bs_one _) (by decide) hle2 Hcs2.out ?_); clear hS hs2 hle2; intro w4 hS; try simp only [List.cons_append, List.nil_append, List.append_nil, List.set_cons_zero, List.set_cons_succ] at hS)
      go_wp2_with fail
      go_roundw
      case rel =>
        refine ⟨k + 1, v2, by omega, by go_num, ?_, ?_⟩
        · rw [Hst.out, H1.out, H2.out, ← Hn2.out]
          exact hS.pick [0, 1, 2] rfl (by decide)
        · rw [Hst.out]; exact hsub
      case measure => simp [intOf]; omega
    · have hkn : k = 32 := by omega
      subst hkn
      have ht : takeLamp s = (⟨shownOf 32 s, otherOf 32 s⟩, (times PS.sum 32 s).2) := by simp only [takeLamp, shownOf, otherOf]
      have Ht := Lib.hid ht
      have hc : bs (shownOf 32 s ++ zb (512 - 32 * 16)) ++ bs (otherOf 32 s ++ zb (512 - 32 * 16)) = LSig.cells ⟨shownOf 32 s, otherOf 32 s⟩ := by simp [LSig.cells, zb]
      rw [hc] at hS
      have hlen := LSig.len ⟨shownOf 32 s, otherOf 32 s⟩ (by show (shownOf 32 s).length = 512; rw [shownOf_len]) (by show (otherOf 32 s).length = 512; rw [otherOf_len])
      have Hlen := Lib.hid hlen
      clear ht hc hlen
      go_wp2_with (first | ((with_reducible show wpList _ _ _ (Oper.mk _ (Op.load _ _) _ _ _ _ :: _) _ _); refine wpl rfl ?_; refine (owp_loadW hS 2 rfl rfl rfl (Hlen.out) ?_)) | ((with_reducible show wpList _ _ _ (Oper.mk _ (Op.store _ _ _) _ _ _ _ :: _) _ _); refine wpl rfl ?_; refine (owp_storeW hS 1 rfl rfl rfl rfl (Hlen.out) (Hz.out) (LSig.one _) ?_); clear hS; intro _ hS; try simp only [List.cons_append, List.nil_append, List.append_nil, List.set_cons_zero, List.set_cons_succ] at hS))
      (try simp only [Exit.inBlock, Exit.then]); refine bodyPost_ret (res_cell rfl rfl hS 1 rfl (Hlen.out)) rfl ?_
      show InPost w b v s (.agg (takeLamp s).1.cells.toArray) (takeLamp s).2 _ _
      rw [Ht.out]
      exact ⟨rfl, _, hS.pick [0] rfl (by decide), hsub⟩

end Go.Proofs.Ytldmkafobbemjaa
namespace Go.Proofs.Ytldmkafobbemjaa
set_option linter.unusedSimpArgs false
set_option linter.unusedVariables false
open Go Go.RowKit
set_option maxRecDepth 100000
set_option maxHeartbeats 2000000

theorem build_sig (key : Nat) (w : World) : (Instr.build 39 #[(1, .int .u32 key)]).run Try.prog w = .ok (.agg (Sig.cells ⟨LSig.zero, key, []⟩ (.slice none 0 0)).toArray) w := by kernel_rfl
theorem build_sig0 (w : World) : (Instr.build 39 #[]).run Try.prog w = .ok (.agg (Sig.zero.cells (.slice none 0 0)).toArray) w := by kernel_rfl
theorem Sig.len (c : Sig) (v : Value) (h : c.l.cells.length = 1024) : (c.cells v).length = 1026 := by simp [Sig.cells, h]
theorem Sig.one (c : Sig) (v : Value) (hv : v.oneCell' = true) : ∀ x, x ∈ c.cells v → x.oneCell' = true := by
  intro x hx
  simp only [Sig.cells, List.mem_append, List.mem_cons, List.not_mem_nil, or_false] at hx
  rcases hx with h | rfl | rfl
  · exact LSig.one _ x h
  · rfl
  · exact hv
theorem Sig.set_l (l l' : LSig) (key : Nat) (way : List (List UInt8)) (v : Value) (h : l.cells.length = 1024) :
    (Sig.cells ⟨l, key, way⟩ v).take 0 ++ l'.cells ++ (Sig.cells ⟨l, key, way⟩ v).drop (0 + 1024) = Sig.cells ⟨l', key, way⟩ v := by
  simp [Sig.cells, h]
theorem Sig.set_way (l : LSig) (key : Nat) (way way' : List (List UInt8)) (v v' : Value) (h : l.cells.length = 1024) : (Sig.cells ⟨l, key, way⟩ v).set 1025 v' = Sig.cells ⟨l, key, way'⟩ v' := by
  simp [Sig.cells, List.set_append, h]
theorem Sig.get_way (c : Sig) (v : Value) (h : c.l.cells.length = 1024) : (c.cells v)[1025]? = some v := by
  simp [Sig.cells, List.getElem?_append, h]
theorem wayCells_snoc (l : List (List UInt8)) (d : List UInt8) : wayCells (l ++ [d]) = wayCells l ++ bs d := by simp [wayCells]
theorem takeLamp_len (s : PS) : (takeLamp s).1.cells.length = 1024 := by
  have h1 := shownOf_len 32 s
  have h2 := otherOf_len 32 s
  have e : (takeLamp s).1 = ⟨shownOf 32 s, otherOf 32 s⟩ := by simp only [takeLamp, shownOf, otherOf]
  rw [e]
  generalize shownOf 32 s = S at *
  generalize otherOf 32 s = O at *
  exact LSig.len ⟨S, O⟩ (by omega) (by omega)
theorem lzero_len : LSig.zero.cells.length = 1024 := LSig.len LSig.zero (zb_length 512) (zb_length 512)

def SigPost (w : World) (b : Nat) (v : Value) (s : PS) (T : TypeId) (e : Ending) (w' : World) : Prop :=
  ∃ wv v' x, e = .returned (.agg ((takeSig s).1.cells wv).toArray) ∧ St w [b] w' [inBlk b v' (takeSig s).2.bad, x] ∧ SubV v s.rest v' (takeSig s).2.rest ∧
    RowV T 32 wv (takeSig s).1.way.length (wayCells (takeSig s).1.way) x


theorem takeSig_ok (b : Nat) (v : Value) (s : PS) (w : World) (hb : Holds w (inBlk b v s.bad)) (hv : InV w b v s.rest) :
    Calls Try.prog 31 #[.pointer (some ⟨b, 0, none⟩)] w (SigPost w b v s 50) := by
  have hS := in_start hb
  have hsub := SubV.refl v s.rest
  have Hz := Lib.hid lzero_len
  go_enter Try.func31, Try.ntmps31
  go_wp2_with (first | ((with_reducible show wpList _ _ _ (Oper.mk (some 2) (Op.alloc _) _ _ _ _ :: _) _ _); refine wpl rfl ?_; refine (owp_allocAt hS 2 rfl rfl ?_); clear hS; intro gr _ hS; simp only [List.cons_append, List.nil_append] at hS))
  refine (four_ok b _ _ _ (hS.get 0 rfl) ((hsub _ _ hv).st hS (.inl rfl))).mono ?_; rintro e w1 ⟨rfl, v2, hc, hsub2⟩; replace hS := hS.call1 0 rfl hc; try simp only [List.cons_append, List.nil_append, List.append_nil, List.set_cons_zero, List.set_cons_succ] at hS; replace hsub := hsub.trans hsub2; clear hc hsub2
  go_wp2_with (first | ((with_reducible show wpList _ _ _ (Oper.mk _ (Op.build _ _) _ _ _ _ :: _) _ _); refine wpl rfl ?_; refine owp_build rfl [(1, .int .u32 _)] rfl (build_sig _ _) ?_) | ((with_reducible show wpList _ _ _ (Oper.mk (some 3) (Op.alloc _) _ _ _ _ :: _) _ _); refine wpl rfl ?_; refine (owp_allocAt hS 3 rfl rfl ?_); clear hS; intro gs _ hS; simp only [List.cons_append, List.nil_append] at hS) | ((with_reducible show wpList _ _ _ (Oper.mk _ (Op.store _ _ _) _ _ _ _ :: _) _ _); refine wpl rfl ?_; refine (owp_storeW hS 2 rfl rfl rfl rfl (Sig.len _ _ Hz.out) (Sig.len Sig.zero _ Hz.out) (Sig.one _ _ rfl) ?_); clear hS; intro _ hS; try simp only [List.cons_append, List.nil_append, List.append_nil, List.set_cons_zero, List.set_cons_succ] at hS))
  refine (many_ok 8 (by omega) b _ _ _ (hS.get 0 rfl) ((hsub _ _ hv).st hS (.inl rfl))).mono ?_
  rintro e w1 ⟨rfl, v2, hc, hsub2⟩
  replace hS := hS.call1 0 rfl hc
  try simp only [List.cons_append, List.nil_append, List.append_nil, List.set_cons_zero, List.set_cons_succ] at hS
  replace hsub := hsub.trans hsub2
  clear hc hsub2
  have hn := many_le 8 (s.num 4).2
  go_wp2_with fail
  refine (takeLamp_ok b _ _ _ (hS.get 0 rfl) ((hsub _ _ hv).st hS (.inl rfl))).mono ?_; rintro e w1 ⟨rfl, v2, hc, hsub2⟩; replace hS := hS.call1 0 rfl hc; try simp only [List.cons_append, List.nil_append, List.append_nil, List.set_cons_zero, List.set_cons_succ] at hS; replace hsub := hsub.trans hsub2; clear hc hsub2
  have Hl := Lib.hid (takeLamp_len ((s.num 4).2.many 8).2)
  go_wp2_with (first | ((with_reducible show wpList _ _ _ (Oper.mk _ (Op.store _ _ _) _ _ _ _ :: _) _ _); refine wpl rfl ?_; refine owp_store hS 2 rfl rfl rfl rfl Hl.out (by rw [Sig.len _ _ Hz.out]; omega) (LSig.one _) (Sig.set_l _ _ _ _ _ Hz.out) ?_; clear hS; intro _ hS; try simp only [List.cons_append, List.nil_append, List.append_nil, List.set_cons_zero, List.set_cons_succ] at hS))
  have ht : takeSig s = (if (times PS.sum ((s.num 4).2.many 8).1 (takeLamp ((s.num 4).2.many 8).2).2).2.bad ≠ 0 then Sig.zero else ⟨(takeLamp ((s.num 4).2.many 8).2).1, (s.num 4).1, (times PS.sum ((s.num 4).2.many 8).1 (takeLamp ((s.num 4).2.many 8).2).2).1⟩, (times PS.sum ((s.num 4).2.many 8).1 (takeLamp ((s.num 4).2.many 8).2).2).2) := rfl
  have Ht := Lib.hid ht
  clear ht
  generalize ((s.num 4).2.many 8).1 = n at *
  generalize (takeLamp ((s.num 4).2.many 8).2).1 = l at *
  generalize (takeLamp ((s.num 4).2.many 8).2).2 = s1 at *
  generalize (s.num 4).1 = key at *
  go_wp2_with fail
  go_loopw [14] (fun i wr => ∃ (k : Nat) (v' wv : Value) (x : Ent), k ≤ n ∧ i = .int .i64 k ∧ RowV 50 32 wv k (wayCells (times PS.sum k s1).1) x ∧
      St w [b] wr [inBlk b v' (times PS.sum k s1).2.bad, some (gr, Sig.zero.cells (.slice none 0 0), 39), some (gs, Sig.cells ⟨l, key, []⟩ wv, 39), x] ∧ SubV v s.rest v' (times PS.sum k s1).2.rest) (fun i _ => n - (intOf i).toNat)
  case atStart => exact ⟨0, v2, .slice none 0 0, none, Nat.zero_le _, rfl, by rw [times_zero]; exact RowV.nil _ _, by rw [times_zero]; exact hS.addNone, by rw [times_zero]; exact hsub⟩
  case round =>
    clear hS hsub
    obtain ⟨k, v', wv, x, hk, rfl, hrow, hS, hsub⟩ := hrel
    by_cases hlt : k < n
    · have Hstep := Lib.hid (times_succ PS.sum k s1)
      generalize (times PS.sum k s1).1 = way at *
      generalize (times PS.sum k s1).2 = s2 at *
      obtain ⟨a0, c0, rfl⟩ := hrow.isSl
      have h63 : k + 1 ≤ maxLen := by unfold maxLen; omega
      have hby : (k + 1) * 32 ≤ 140737488355328 := by omega
      have Hd := Lib.hid (sum_len s2)
      have hdl : (bs s2.sum.1).length = 32 := by rw [bs_length, Hd.out]
      have Hdl := Lib.hid hdl
      clear hdl
      go_wp2_with fail
      have hsum := fun w1 (h1 : Holds w1 (inBlk b v' s2.bad)) (h2 : InV w1 b v' s2.rest) => sum_ok b v' s2 w1 h1 h2
      have hsh : (bs (s2.sum.1)).length = 32 := Hdl.out
      replace hS := hS.drew
      refine wp_region_any (by kernel_rfl) ?_; change wpAny _ _ _ _ _ _ _ (World.drew _)
      refine rtake (i := 0) (v := .pointer (some ⟨gs, 1025, none⟩)) rfl (by kernel_rfl) (by kernel_rfl) (by kernel_rfl) (fun _ _ _ h => h) (Or.inl ⟨by rfl, by (intro w; go_simp; try with_reducible rfl)⟩) ?_; simp only [Act.put, List.setIfInBounds_toArray, List.set_cons_succ, List.set_cons_zero]
      refine rtake (i := 2) (v := .pointer (some ⟨b, 0, none⟩)) rfl (by kernel_rfl) (by kernel_rfl) (by kernel_rfl) (fun _ _ _ h => h) (Or.inl ⟨by rfl, by (intro w; go_simp; try with_reducible rfl)⟩) ?_; simp only [Act.put, List.setIfInBounds_toArray, List.set_cons_succ, List.set_cons_zero]
      refine wpAny_ready (rs := [1, 3]) (by kernel_rfl) (by simp) ?_
      refine rcons rfl rfl (fun K hK => ?_) ?_
      · refine owp_load1 hS 2 rfl rfl rfl (Sig.get_way _ _ Hl.out) ?_
        refine hK _ _ ?_; clear hK K; simp only [Act.put, List.setIfInBounds_toArray, List.set_cons_succ, List.set_cons_zero]
        refine wpAny_ready (rs := [3]) (by kernel_rfl) (by simp) ?_
        refine rcons rfl rfl (fun K hK => ?_) ?_
        · refine owp_call rfl (by kernel_rfl) rfl (sum_ok b _ _ _ (hS.get 0 rfl) ((hsub _ _ hv).st hS (.inl rfl))) ?_
          rintro e w2 ⟨rfl, v3, hc, hsub2⟩
          replace hS := hS.call1 0 rfl hc
          try simp only [List.cons_append, List.nil_append, List.append_nil, List.set_cons_zero, List.set_cons_succ] at hS
          replace hsub := hsub.trans hsub2
          clear hc hsub2
          refine ⟨_, rfl, ?_⟩
          refine hK _ _ ?_; clear hK K; simp only [Act.put, List.setIfInBounds_toArray, List.set_cons_succ, List.set_cons_zero]
          refine wpAny_ready (rs := [4]) (by kernel_rfl) (by simp) ?_
          refine rcons rfl rfl (fun K hK => ?_) ?_
          · refine owp_bslice1 (vs := bs s2.sum.1) hS rfl rfl Hdl.out (by decide) ?_
            clear hS
            intro gl _ hS
            try simp only [List.cons_append, List.nil_append, List.append_nil, List.set_cons_zero, List.set_cons_succ] at hS
            refine hK _ _ ?_; clear hK K; simp only [Act.put, List.setIfInBounds_toArray, List.set_cons_succ, List.set_cons_zero]
            refine wpAny_ready (rs := [5]) (by kernel_rfl) (by simp) ?_
            refine rcons rfl rfl (fun K hK => ?_) ?_
            · refine owp_append hS 3 rfl rfl rfl hrow rfl ((RowV.lit 50 32 _ 1 _ (by rw [Hdl.out]) (by decide)).read (hS.get 4 rfl)) (bs_one _) h63 hby ?_
              clear hS hrow
              intro v4 x4 _ hrow hS _
              obtain ⟨a4, c4, rfl⟩ := hrow.isSl
              try simp only [List.cons_append, List.nil_append, List.append_nil, List.set_cons_zero, List.set_cons_succ] at hS
              refine hK _ _ ?_; clear hK K; simp only [Act.put, List.setIfInBounds_toArray, List.set_cons_succ, List.set_cons_zero]
              refine rtake (i := 6) (v := .pointer (some ⟨gs, 1025, none⟩)) rfl (by kernel_rfl) (by kernel_rfl) (by kernel_rfl) (fun _ _ _ h => h) (Or.inl ⟨by rfl, by (intro w; go_simp; try with_reducible rfl)⟩) ?_; simp only [Act.put, List.setIfInBounds_toArray, List.set_cons_succ, List.set_cons_zero]
              refine wpAny_ready (rs := [7]) (by kernel_rfl) (by simp) ?_
              refine rcons rfl rfl (fun K hK => ?_) ?_
              · refine owp_store1 hS 2 rfl rfl rfl rfl rfl (by rw [Sig.len _ _ Hl.out]; omega) (Sig.set_way _ _ _ [] _ _ Hl.out) ?_
                clear hS
                intro _ hS
                try simp only [List.cons_append, List.nil_append, List.append_nil, List.set_cons_zero, List.set_cons_succ] at hS
                refine hK _ _ ?_; clear hK K; simp only [Act.put, List.setIfInBounds_toArray, List.set_cons_succ, List.set_cons_zero]
                refine wpAny_done (by kernel_rfl) ?_ _
                go_wp2_with fail
                go_roundw
                case rel =>
                  refine ⟨k + 1, v3, .slice a4 (k + 1) c4, x4, by omega, by go_num, ?_, ?_, ?_⟩
                  · rw [Hstep.out, wayCells_snoc]; exact hrow
                  · rw [Hstep.out]; exact hS.pick [0, 1, 2, 3] rfl (by decide)
                  · rw [Hstep.out]; exact hsub
                case measure => simp [intOf]; omega
              · exact AllReady.nil
            · exact AllReady.nil
          · exact AllReady.nil
        · exact AllReady.nil
      · refine rcons rfl rfl (fun K hK => ?_) ?_
        · refine owp_call rfl (by kernel_rfl) rfl (sum_ok b _ _ _ (hS.get 0 rfl) ((hsub _ _ hv).st hS (.inl rfl))) ?_
          rintro e w2 ⟨rfl, v3, hc, hsub2⟩
          replace hS := hS.call1 0 rfl hc
          try simp only [List.cons_append, List.nil_append, List.append_nil, List.set_cons_zero, List.set_cons_succ] at hS
          replace hsub := hsub.trans hsub2
          clear hc hsub2
          refine ⟨_, rfl, ?_⟩
          refine hK _ _ ?_; clear hK K; simp only [Act.put, List.setIfInBounds_toArray, List.set_cons_succ, List.set_cons_zero]
          refine wpAny_ready (rs := [1, 4]) (by kernel_rfl) (by simp) ?_
          refine rcons rfl rfl (fun K hK => ?_) ?_
          · refine owp_load1 hS 2 rfl rfl rfl (Sig.get_way _ _ Hl.out) ?_
            refine hK _ _ ?_; clear hK K; simp only [Act.put, List.setIfInBounds_toArray, List.set_cons_succ, List.set_cons_zero]
            refine wpAny_ready (rs := [4]) (by kernel_rfl) (by simp) ?_
            refine rcons rfl rfl (fun K hK => ?_) ?_
            · refine owp_bslice1 (vs := bs s2.sum.1) hS rfl rfl Hdl.out (by decide) ?_
              clear hS
              intro gl _ hS
              try simp only [List.cons_append, List.nil_append, List.append_nil, List.set_cons_zero, List.set_cons_succ] at hS
              refine hK _ _ ?_; clear hK K; simp only [Act.put, List.setIfInBounds_toArray, List.set_cons_succ, List.set_cons_zero]
              refine wpAny_ready (rs := [5]) (by kernel_rfl) (by simp) ?_
              refine rcons rfl rfl (fun K hK => ?_) ?_
              · refine owp_append hS 3 rfl rfl rfl hrow rfl ((RowV.lit 50 32 _ 1 _ (by rw [Hdl.out]) (by decide)).read (hS.get 4 rfl)) (bs_one _) h63 hby ?_
                clear hS hrow
                intro v4 x4 _ hrow hS _
                obtain ⟨a4, c4, rfl⟩ := hrow.isSl
                try simp only [List.cons_append, List.nil_append, List.append_nil, List.set_cons_zero, List.set_cons_succ] at hS
                refine hK _ _ ?_; clear hK K; simp only [Act.put, List.setIfInBounds_toArray, List.set_cons_succ, List.set_cons_zero]
                refine rtake (i := 6) (v := .pointer (some ⟨gs, 1025, none⟩)) rfl (by kernel_rfl) (by kernel_rfl) (by kernel_rfl) (fun _ _ _ h => h) (Or.inl ⟨by rfl, by (intro w; go_simp; try with_reducible rfl)⟩) ?_; simp only [Act.put, List.setIfInBounds_toArray, List.set_cons_succ, List.set_cons_zero]
                refine wpAny_ready (rs := [7]) (by kernel_rfl) (by simp) ?_
                refine rcons rfl rfl (fun K hK => ?_) ?_
                · refine owp_store1 hS 2 rfl rfl rfl rfl rfl (by rw [Sig.len _ _ Hl.out]; omega) (Sig.set_way _ _ _ [] _ _ Hl.out) ?_
                  clear hS
                  intro _ hS
                  try simp only [List.cons_append, List.nil_append, List.append_nil, List.set_cons_zero, List.set_cons_succ] at hS
                  refine hK _ _ ?_; clear hK K; simp only [Act.put, List.setIfInBounds_toArray, List.set_cons_succ, List.set_cons_zero]
                  refine wpAny_done (by kernel_rfl) ?_ _
                  go_wp2_with fail
                  go_roundw
                  case rel =>
                    refine ⟨k + 1, v3, .slice a4 (k + 1) c4, x4, by omega, by go_num, ?_, ?_, ?_⟩
                    · rw [Hstep.out, wayCells_snoc]; exact hrow
                    · rw [Hstep.out]; exact hS.pick [0, 1, 2, 3] rfl (by decide)
                    · rw [Hstep.out]; exact hsub
                  case measure => simp [intOf]; omega
                · exact AllReady.nil
              · exact AllReady.nil
            · exact AllReady.nil
          · refine rcons rfl rfl (fun K hK => ?_) ?_
            · refine owp_bslice1 (vs := bs s2.sum.1) hS rfl rfl Hdl.out (by decide) ?_
              clear hS
              intro gl _ hS
              try simp only [List.cons_append, List.nil_append, List.append_nil, List.set_cons_zero, List.set_cons_succ] at hS
              refine hK _ _ ?_; clear hK K; simp only [Act.put, List.setIfInBounds_toArray, List.set_cons_succ, List.set_cons_zero]
              refine wpAny_ready (rs := [1]) (by kernel_rfl) (by simp) ?_
              refine rcons rfl rfl (fun K hK => ?_) ?_
              · refine owp_load1 hS 2 rfl rfl rfl (Sig.get_way _ _ Hl.out) ?_
                refine hK _ _ ?_; clear hK K; simp only [Act.put, List.setIfInBounds_toArray, List.set_cons_succ, List.set_cons_zero]
                refine wpAny_ready (rs := [5]) (by kernel_rfl) (by simp) ?_
                refine rcons rfl rfl (fun K hK => ?_) ?_
                · refine owp_append hS 3 rfl rfl rfl hrow rfl ((RowV.lit 50 32 _ 1 _ (by rw [Hdl.out]) (by decide)).read (hS.get 4 rfl)) (bs_one _) h63 hby ?_
                  clear hS hrow
                  intro v4 x4 _ hrow hS _
                  obtain ⟨a4, c4, rfl⟩ := hrow.isSl
                  try simp only [List.cons_append, List.nil_append, List.append_nil, List.set_cons_zero, List.set_cons_succ] at hS
                  refine hK _ _ ?_; clear hK K; simp only [Act.put, List.setIfInBounds_toArray, List.set_cons_succ, List.set_cons_zero]
                  refine rtake (i := 6) (v := .pointer (some ⟨gs, 1025, none⟩)) rfl (by kernel_rfl) (by kernel_rfl) (by kernel_rfl) (fun _ _ _ h => h) (Or.inl ⟨by rfl, by (intro w; go_simp; try with_reducible rfl)⟩) ?_; simp only [Act.put, List.setIfInBounds_toArray, List.set_cons_succ, List.set_cons_zero]
                  refine wpAny_ready (rs := [7]) (by kernel_rfl) (by simp) ?_
                  refine rcons rfl rfl (fun K hK => ?_) ?_
                  · refine owp_store1 hS 2 rfl rfl rfl rfl rfl (by rw [Sig.len _ _ Hl.out]; omega) (Sig.set_way _ _ _ [] _ _ Hl.out) ?_
                    clear hS
                    intro _ hS
                    try simp only [List.cons_append, List.nil_append, List.append_nil, List.set_cons_zero, List.set_cons_succ] at hS
                    refine hK _ _ ?_; clear hK K; simp only [Act.put, List.setIfInBounds_toArray, List.set_cons_succ, List.set_cons_zero]
                    refine wpAny_done (by kernel_rfl) ?_ _
                    go_wp2_with fail
                    go_roundw
                    case rel =>
                      refine ⟨k + 1, v3, .slice a4 (k + 1) c4, x4, by omega, by go_num, ?_, ?_, ?_⟩
                      · rw [Hstep.out, wayCells_snoc]; exact hrow
                      · rw [Hstep.out]; exact hS.pick [0, 1, 2, 3] rfl (by decide)
                      · rw [Hstep.out]; exact hsub
                    case measure => simp [intOf]; omega
                  · exact AllReady.nil
                · exact AllReady.nil
              · exact AllReady.nil
            · exact AllReady.nil
        · exact AllReady.nil
    · have hkn : k = n := by omega
      subst hkn
      have Hlen := Lib.hid (times_len PS.sum k s1)
      generalize (times PS.sum k s1).1 = way at *
      generalize (times PS.sum k s1).2 = s2 at *
      obtain ⟨a0, c0, rfl⟩ := hrow.isSl
      go_wp2_with fail
      refine (bad_ok b _ _ _ (hS.get 0 rfl)).mono ?_
      rintro e w1 ⟨rfl, rfl⟩
      by_cases hbad : s2.bad = 0
      · have hb1 : (s2.bad != 0) = false := by simpa using hbad
        have Hbad := Lib.hid hbad
        clear hbad
        go_wp2_with (first | ((with_reducible show wpList _ _ _ (Oper.mk _ (Op.load _ _) _ _ _ _ :: _) _ _); refine wpl rfl ?_; refine (owp_loadW hS 2 rfl rfl rfl (Sig.len _ _ Hl.out) ?_)) | ((with_reducible show wpList _ _ _ (Oper.mk _ (Op.store _ _ _) _ _ _ _ :: _) _ _); refine wpl rfl ?_; refine (owp_storeW hS 1 rfl rfl rfl rfl (Sig.len _ _ Hl.out) (Sig.len Sig.zero _ Hz.out) (Sig.one _ _ rfl) ?_); clear hS; intro _ hS; try simp only [List.cons_append, List.nil_append, List.append_nil, List.set_cons_zero, List.set_cons_succ] at hS))
        (try simp only [Exit.inBlock, Exit.then]); refine bodyPost_ret (res_cell rfl rfl hS 1 rfl (Sig.len _ _ Hl.out)) rfl ?_
        refine ⟨.slice a0 k c0, v', x, ?_, ?_, ?_, ?_⟩
        · rw [Ht.out, if_neg (by simpa using Hbad.out)]; rfl
        · rw [Ht.out]; exact hS.pick [0, 3] rfl (by decide)
        · rw [Ht.out]; exact hsub
        · rw [Ht.out, if_neg (by simpa using Hbad.out), Hlen.out]; exact hrow
      · have hb1 : (s2.bad != 0) = true := by simpa using hbad
        have Hbad := Lib.hid hbad
        clear hbad
        go_wp2_with (first | ((with_reducible show wpList _ _ _ (Oper.mk _ (Op.build _ _) _ _ _ _ :: _) _ _); refine wpl rfl ?_; refine owp_build rfl [] rfl (build_sig0 _) ?_) | ((with_reducible show wpList _ _ _ (Oper.mk _ (Op.store _ _ _) _ _ _ _ :: _) _ _); refine wpl rfl ?_; refine (owp_storeW hS 1 rfl rfl rfl rfl (Sig.len Sig.zero _ Hz.out) (Sig.len Sig.zero _ Hz.out) (Sig.one _ _ rfl) ?_); clear hS; intro _ hS; try simp only [List.cons_append, List.nil_append, List.append_nil, List.set_cons_zero, List.set_cons_succ] at hS))
        (try simp only [Exit.inBlock, Exit.then]); refine bodyPost_ret (res_cell rfl rfl hS 1 rfl (Sig.len Sig.zero _ Hz.out)) rfl ?_
        refine ⟨.slice none 0 0, v', none, ?_, ?_, ?_, ?_⟩
        · rw [Ht.out, if_pos (by simpa using Hbad.out)]
        · rw [Ht.out]; exact (hS.pick [0] rfl (by decide)).addNone
        · rw [Ht.out]; exact hsub
        · rw [Ht.out, if_pos (by simpa using Hbad.out)]; exact RowV.nil _ _

end Go.Proofs.Ytldmkafobbemjaa
