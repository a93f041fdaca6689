/-
  What was laid is read as it was, and what is read has the very bytes. Plain Lean: no program in sight.
  A state, a deed laid to bytes are read as they were; bounds of what is read. Plain Lean: no program in sight.
-/
import Derived.Test.YtldmkafobbemjaaB8
import Derived.Test.YtldmkafobbemjaaB2
namespace Go.Proofs.Ytldmkafobbemjaa
set_option linter.unusedSimpArgs false
set_option linter.unusedVariables false
open Go Go.RowKit
set_option maxRecDepth 100000
set_option maxHeartbeats 1000000

theorem flatMap_cong {α β : Type} {l : List α} {f g : α → List β} (h : ∀ x, x ∈ l → f x = g x) : l.flatMap f = l.flatMap g := by
  induction l with
  | nil => rfl
  | cons a l ih => rw [List.flatMap_cons, List.flatMap_cons, h a (by simp), ih (fun x hx => h x (by simp [hx]))]
theorem encTo_add (k n j : Nat) (h : j ≤ k) : encTo (k + 1) n j = encTo k (n / 256) j := by
  unfold encTo
  apply List.map_congr_left
  intro i hi
  simp only [List.mem_range] at hi
  rw [show k + 1 - 1 - i = (k - 1 - i) + 1 by omega, Nat.pow_succ, Nat.mul_comm, Nat.div_div_eq_div_mul]
theorem enc_snoc (k n : Nat) : enc (k + 1) n = enc k (n / 256) ++ [UInt8.ofNat n] := by
  rw [enc, encTo_succ, encTo_add k n k (Nat.le_refl k)]
  simp [enc]
theorem be_enc : ∀ (k n : Nat), n < 256 ^ k → be (enc k n) = n
  | 0, n, h => by
    have : n = 0 := by simpa using h
    subst this
    rfl
  | k + 1, n, h => by
    have h2 : n / 256 < 256 ^ k := by
      rw [Nat.pow_succ] at h
      exact Nat.div_lt_of_lt_mul (by rw [Nat.mul_comm]; exact h)
    rw [enc_snoc, be_snoc, be_enc k _ h2]
    simp only [UInt8.toNat_ofNat']
    omega
theorem enc_be : ∀ (k : Nat) (l : List UInt8), l.length = k → enc k (be l) = l
  | 0, l, h => by
    have : l = [] := List.eq_nil_of_length_eq_zero h
    subst this
    rfl
  | k + 1, l, h => by
    rcases List.eq_nil_or_concat l with rfl | ⟨l', b, rfl⟩
    · simp at h
    · have h2 : l'.length = k := by simpa using h
      rw [List.concat_eq_append]
      have hb := b.toNat_lt
      rw [enc_snoc, be_snoc, show (be l' * 256 + b.toNat) / 256 = be l' by omega, enc_be k l' h2]
      congr 2
      apply UInt8.toNat_inj.1
      simp only [UInt8.toNat_ofNat']
      omega
theorem enc_one (n : Nat) : enc 1 n = [UInt8.ofNat n] := by rw [enc_snoc]; rfl

/-! ### Read as it was -/
def Reads {α : Type} (f : PS → α × PS) (p : List UInt8) (a : α) : Prop := ∀ r, f ⟨p ++ r, 0⟩ = (a, ⟨r, 0⟩)

theorem cut_reads (k : Nat) (p : List UInt8) (h : p.length = k) : Reads (PS.cut k) p p := by
  intro r
  unfold PS.cut
  rw [if_neg (by simp), if_neg (by simp [h])]
  simp only [List.take_left' h, List.drop_left' h]
theorem num_reads (k n : Nat) (h : n < 256 ^ k) : Reads (PS.num k) (enc k n) n := by
  intro r
  unfold PS.num
  rw [cut_reads k (enc k n) (enc_length k n) r]
  simp only [be_enc k n h]
theorem num1_reads (n : Nat) (h : n < 256) : Reads (PS.num 1) [UInt8.ofNat n] n := by
  rw [← enc_one]
  exact num_reads 1 n (by simpa using h)
theorem sum_reads (d : List UInt8) (h : d.length = 32) : Reads PS.sum d d := by
  intro r
  unfold PS.sum
  rw [cut_reads 32 d h r]
  simp [pad, h]
theorem many_reads (most n : Nat) (h : n ≤ most) (hm : most ≤ 255) : Reads (PS.many most) [UInt8.ofNat n] n := by
  intro r
  unfold PS.many
  rw [num1_reads n (by omega) r]
  rw [if_neg (by simp only; omega)]

theorem takeCond_reads (c : Cond) (hc : c.Ok) (hs : c.side = 0 ∨ c.side = 1) : Reads takeCond (layCond c) c := by
  intro r
  obtain ⟨id, side, amount, hash, expiry⟩ := c
  obtain ⟨h1, h2, h3, h4, h5⟩ := hc
  simp only at h1 h2 h3 h4 h5 hs
  unfold takeCond layCond
  simp only [List.append_assoc]
  rw [num_reads 8 id (by simpa using h2)]
  simp only
  rw [num1_reads side.toNat (by omega)]
  simp only
  rw [num_reads 8 amount (by simpa using h4)]
  simp only
  rw [sum_reads hash h1]
  simp only
  rw [num_reads 8 expiry (by simpa using h5)]
  simp only
  rw [if_neg (by omega), Int.toNat_of_nonneg h3.1]

theorem takeOp_reads (o : Oop) (ho : o.Ok) (hs : o.cond.side = 0 ∨ o.cond.side = 1) : Reads takeOp (layOp o) o := by
  intro r
  obtain ⟨kind, amount, cond, id⟩ := o
  obtain ⟨h1, h2, h3, h4⟩ := ho
  simp only at h1 h2 h3 h4 hs
  unfold takeOp layOp
  simp only [List.append_assoc]
  rw [num1_reads kind.toNat (by omega)]
  simp only
  rw [num_reads 8 amount (by simpa using h3)]
  simp only
  rw [num_reads 8 id (by simpa using h4)]
  simp only
  rw [takeCond_reads cond h1 hs]
  simp only
  rw [if_neg (by simp), Int.toNat_of_nonneg h2.1]

theorem takeHop_reads (h : Hop) (hh : h.Ok) : Reads takeHop (layHop h) h := by
  intro r
  obtain ⟨c, a, i⟩ := h
  obtain ⟨h1, h2, h3⟩ := hh
  simp only at h1 h2 h3
  unfold takeHop layHop
  simp only [List.append_assoc]
  rw [num_reads 4 c (by simpa using h1)]
  simp only
  rw [num_reads 8 a (by simpa using h2)]
  simp only
  rw [num_reads 8 i (by simpa using h3)]

theorem times_reads {α : Type} (f : PS → α × PS) (lay : α → List UInt8) (l : List α) (h : ∀ a, a ∈ l → Reads f (lay a) a) : ∀ n, n ≤ l.length → Reads (times f n) ((l.take n).flatMap lay) (l.take n)
  | 0, _ => by intro r; rw [times_zero]; simp
  | n + 1, hn => by
    intro r
    have hlt : n < l.length := by omega
    have e : (l.take (n + 1)).flatMap lay ++ r = (l.take n).flatMap lay ++ (lay l[n] ++ r) := by
      rw [List.take_succ_eq_append_getElem hlt, List.flatMap_append]
      simp [List.append_assoc]
    rw [e, times_succ, times_reads f lay l h n (by omega)]
    simp only
    rw [h _ (List.getElem_mem hlt) r, List.take_succ_eq_append_getElem hlt]
theorem times_reads' {α : Type} (f : PS → α × PS) (lay : α → List UInt8) (l : List α) (h : ∀ a, a ∈ l → Reads f (lay a) a) : Reads (times f l.length) (l.flatMap lay) l := by
  have := times_reads f lay l h l.length (Nat.le_refl _)
  rwa [List.take_length] at this

theorem takeTrail_reads (l : List Hop) (hl : l.length ≤ 7) (h : ∀ x, x ∈ l → x.Ok) : Reads takeTrail (layTrail l) l := by
  intro r
  unfold takeTrail layTrail
  have e : UInt8.ofNat l.length :: l.flatMap layHop ++ r = [UInt8.ofNat l.length] ++ (l.flatMap layHop ++ r) := by simp
  rw [e, many_reads 7 l.length hl (by omega)]
  simp only
  rw [times_reads' takeHop layHop l (fun x hx => takeHop_reads x (h x hx)) r]
  simp

theorem sums_reads (ds : List (List UInt8)) (h : ∀ d, d ∈ ds → d.length = 32) : Reads (times PS.sum ds.length) ds.flatten ds := by
  have := times_reads' PS.sum id ds (fun d hd => sum_reads d (h d hd))
  rwa [List.flatMap_id] at this

theorem chunks (x : List UInt8) : ∀ n, n * 16 ≤ x.length → (List.range n).flatMap (fun j => (x.drop (j * 16)).take 16) = x.take (n * 16)
  | 0, _ => by simp
  | n + 1, h => by
    rw [List.range_succ, List.flatMap_append, chunks x n (by omega), Nat.add_mul, List.take_add]
    simp
theorem takeLamp_reads (s : LSig) (h1 : s.shown.length = 512) (h2 : s.other.length = 512) : Reads takeLamp (layLamp s) s := by
  intro r
  obtain ⟨x, y⟩ := s
  simp only at h1 h2
  have hp : ∀ (z : List UInt8) (j : Nat), z.length = 512 → j < 32 → ((z.drop (j * 16)).take 16).length = 16 := by
    intro z j hz hj
    rw [List.length_take, List.length_drop, hz]; omega
  let ds := (List.range 32).map (fun j => (x.drop (j * 16)).take 16 ++ (y.drop (j * 16)).take 16)
  have hds : ∀ d, d ∈ ds → d.length = 32 := by
    intro d hd
    obtain ⟨j, hj, rfl⟩ := List.mem_map.1 hd
    rw [List.mem_range] at hj
    rw [List.length_append, hp x j h1 hj, hp y j h2 hj]
  have hlen : ds.length = 32 := by simp [ds]
  have hflat : layLamp ⟨x, y⟩ = ds.flatten := by
    simp only [layLamp, lampTo, ds, List.flatMap_def]
  have e1 : ds.flatMap (·.take 16) = x := by
    have hh : ds.flatMap (·.take 16) = (List.range 32).flatMap (fun j => (x.drop (j * 16)).take 16) := by
      simp only [ds, List.flatMap_map]
      refine flatMap_cong ?_
      intro j hj
      rw [List.mem_range] at hj
      exact List.take_left' (hp x j h1 hj)
    rw [hh, chunks x 32 (by omega), List.take_of_length_le (by omega)]
  have e2 : ds.flatMap (·.drop 16) = y := by
    have hh : ds.flatMap (·.drop 16) = (List.range 32).flatMap (fun j => (y.drop (j * 16)).take 16) := by
      simp only [ds, List.flatMap_map]
      refine flatMap_cong ?_
      intro j hj
      rw [List.mem_range] at hj
      exact List.drop_left' (hp x j h1 hj)
    rw [hh, chunks y 32 (by omega), List.take_of_length_le (by omega)]
  have hr := sums_reads ds hds r
  rw [hlen] at hr
  unfold takeLamp
  rw [hflat, hr]
  simp only [e1, e2]

theorem takeSig_reads (s : Sig) (hf : s.Fit) (hk : s.key < 2 ^ 32) (hw : s.way.length ≤ 8) : Reads takeSig (laySig s) s := by
  intro r
  obtain ⟨l, key, way⟩ := s
  obtain ⟨h1, h2, h3⟩ := hf
  simp only at h1 h2 h3 hk hw
  unfold takeSig laySig
  simp only [List.append_assoc]
  rw [num_reads 4 key (by simpa using hk)]
  simp only
  rw [many_reads 8 way.length hw (by omega)]
  simp only
  rw [takeLamp_reads l h1 h2]
  simp only
  rw [sums_reads way h3 r]
  simp

/-! ### The very bytes -/
def Inv {α : Type} (f : PS → α × PS) (lay : α → List UInt8) : Prop := ∀ s, (f s).2.bad = 0 → s.bad = 0 ∧ s.rest = lay (f s).1 ++ (f s).2.rest

theorem fail_bad (s : PS) (e : Int) (he : e ≠ 0) : (s.fail e).bad ≠ 0 := by
  unfold PS.fail
  split
  · exact he
  · rename_i h
    intro h0
    exact h ⟨h0, he⟩
theorem cut_inv (k : Nat) (s : PS) (h : (s.cut k).2.bad = 0) : s.bad = 0 ∧ k ≤ s.rest.length ∧ s.cut k = (s.rest.take k, ⟨s.rest.drop k, 0⟩) := by
  unfold PS.cut at *
  split at h
  · rename_i hb
    exact (hb h).elim
  · rename_i hb
    have hb0 : s.bad = 0 := by simpa using hb
    split at h
    · simp at h
    · rename_i hl
      refine ⟨hb0, by omega, ?_⟩
      rw [if_neg hb, if_neg hl, hb0]
theorem num_inv (k : Nat) : Inv (PS.num k) (enc k) := by
  intro s h
  obtain ⟨h1, h2, h3⟩ := cut_inv k s h
  refine ⟨h1, ?_⟩
  unfold PS.num
  rw [h3]
  simp only
  rw [enc_be k _ (by rw [List.length_take]; omega), List.take_append_drop]
theorem num1_inv : Inv (PS.num 1) (fun n => [UInt8.ofNat n]) := by
  intro s h
  obtain ⟨h1, h2⟩ := num_inv 1 s h
  exact ⟨h1, by rw [h2, enc_one]⟩
theorem sum_inv : Inv PS.sum id := by
  intro s h
  obtain ⟨h1, h2, h3⟩ := cut_inv 32 s h
  refine ⟨h1, ?_⟩
  unfold PS.sum
  rw [h3]
  have hl : (s.rest.take 32).length = 32 := by rw [List.length_take]; omega
  simp only [pad, hl, id_eq]
  simp
theorem many_inv (most : Nat) (s : PS) (h : (s.many most).2.bad = 0) : s.bad = 0 ∧ s.rest = [UInt8.ofNat (s.many most).1] ++ (s.many most).2.rest := by
  unfold PS.many at *
  split at h
  · exact (fail_bad _ 8 (by decide) h).elim
  · rename_i hle
    rw [if_neg hle]
    exact num1_inv s h

theorem takeCond_inv : Inv takeCond layCond := by
  intro s h
  unfold takeCond at *
  simp only at *
  generalize e1 : s.num 8 = p1 at *
  generalize e2 : p1.2.num 1 = p2 at *
  generalize e3 : p2.2.num 8 = p3 at *
  generalize e4 : p3.2.sum = p4 at *
  generalize e5 : p4.2.num 8 = p5 at *
  split at h
  · exact (fail_bad _ 10 (by decide) h).elim
  · rename_i hs
    rw [if_neg hs]
    have h5 := num_inv 8 p4.2 (by rw [e5]; exact h)
    have h4 := sum_inv p3.2 (by rw [e4]; exact h5.1)
    have h3 := num_inv 8 p2.2 (by rw [e3]; exact h4.1)
    have h2 := num1_inv p1.2 (by rw [e2]; exact h3.1)
    have h1 := num_inv 8 s (by rw [e1]; exact h2.1)
    rw [e5] at h5
    rw [e4] at h4
    rw [e3] at h3
    rw [e2] at h2
    rw [e1] at h1
    refine ⟨h1.1, ?_⟩
    rw [h1.2, h2.2, h3.2, h4.2, h5.2]
    simp [layCond, List.append_assoc]

theorem takeOp_inv : Inv takeOp layOp := by
  intro s h
  unfold takeOp at *
  simp only at *
  generalize e1 : s.num 1 = p1 at *
  generalize e2 : p1.2.num 8 = p2 at *
  generalize e3 : p2.2.num 8 = p3 at *
  generalize e4 : takeCond p3.2 = p4 at *
  have hb : ¬ p4.2.bad ≠ 0 := by simpa using h
  rw [if_neg hb]
  have h4 := takeCond_inv p3.2 (by rw [e4]; exact h)
  have h3 := num_inv 8 p2.2 (by rw [e3]; exact h4.1)
  have h2 := num_inv 8 p1.2 (by rw [e2]; exact h3.1)
  have h1 := num1_inv s (by rw [e1]; exact h2.1)
  rw [e4] at h4
  rw [e3] at h3
  rw [e2] at h2
  rw [e1] at h1
  refine ⟨h1.1, ?_⟩
  rw [h1.2, h2.2, h3.2, h4.2]
  simp [layOp, List.append_assoc]

theorem takeHop_inv : Inv takeHop layHop := by
  intro s h
  unfold takeHop at *
  simp only at *
  generalize e1 : s.num 4 = p1 at *
  generalize e2 : p1.2.num 8 = p2 at *
  generalize e3 : p2.2.num 8 = p3 at *
  have h3 := num_inv 8 p2.2 (by rw [e3]; exact h)
  have h2 := num_inv 8 p1.2 (by rw [e2]; exact h3.1)
  have h1 := num_inv 4 s (by rw [e1]; exact h2.1)
  rw [e3] at h3
  rw [e2] at h2
  rw [e1] at h1
  refine ⟨h1.1, ?_⟩
  rw [h1.2, h2.2, h3.2]
  simp [layHop, List.append_assoc]

theorem times_inv {α : Type} (f : PS → α × PS) (lay : α → List UInt8) (hf : Inv f lay) : ∀ n, Inv (times f n) (fun l => l.flatMap lay)
  | 0 => by intro s h; rw [times_zero] at *; exact ⟨h, by simp⟩
  | n + 1 => by
    intro s h
    rw [times_succ] at *
    simp only at *
    obtain ⟨h1, h2⟩ := hf _ h
    obtain ⟨h3, h4⟩ := times_inv f lay hf n s h1
    refine ⟨h3, ?_⟩
    rw [h4, h2, List.flatMap_append]
    simp [List.append_assoc]

theorem takeTrail_inv : Inv takeTrail layTrail := by
  intro s h
  unfold takeTrail at *
  simp only at *
  have hlen := times_len takeHop (s.many 7).1 (s.many 7).2
  have hb : ¬ (times takeHop (s.many 7).1 (s.many 7).2).2.bad ≠ 0 := by simpa using h
  rw [if_neg hb]
  obtain ⟨h1, h2⟩ := times_inv takeHop layHop takeHop_inv _ _ h
  obtain ⟨h3, h4⟩ := many_inv 7 s h1
  refine ⟨h3, ?_⟩
  rw [h4, h2, layTrail, hlen]
  simp

theorem flatten_drop16 : ∀ (L : List (List UInt8)) (_ : ∀ d, d ∈ L → d.length = 16) (k : Nat) (h : k < L.length), (L.flatten.drop (k * 16)).take 16 = L[k]
  | [], _, k, h => by simp at h
  | x :: L, hl, 0, h => by
    have hx := hl x (by simp)
    simp only [Nat.zero_mul, List.drop_zero, List.flatten_cons, List.getElem_cons_zero]
    exact List.take_left' hx
  | x :: L, hl, k + 1, h => by
    have hx := hl x (by simp)
    have h2 : k < L.length := by simpa using h
    have h5 : x.drop ((k + 1) * 16) = [] := List.drop_eq_nil_of_le (by omega)
    rw [List.flatten_cons, List.drop_append, h5, List.nil_append, show (k + 1) * 16 - x.length = k * 16 by omega, flatten_drop16 L (fun d hd => hl d (by simp [hd])) k h2]
    simp

theorem layLamp_of (ds : List (List UInt8)) (hn : ds.length = 32) (h : ∀ d, d ∈ ds → d.length = 32) : layLamp ⟨ds.flatMap (·.take 16), ds.flatMap (·.drop 16)⟩ = ds.flatten := by
  have h1 : ∀ d, d ∈ ds.map (·.take 16) → d.length = 16 := by
    intro d hd
    obtain ⟨x, hx, rfl⟩ := List.mem_map.1 hd
    rw [List.length_take, h x hx]; rfl
  have h2 : ∀ d, d ∈ ds.map (·.drop 16) → d.length = 16 := by
    intro d hd
    obtain ⟨x, hx, rfl⟩ := List.mem_map.1 hd
    rw [List.length_drop, h x hx]
  have e : ds = (List.range 32).map (fun j => (((ds.flatMap (·.take 16)).drop (j * 16)).take 16 ++ ((ds.flatMap (·.drop 16)).drop (j * 16)).take 16)) := by
    apply List.ext_getElem
    · simp [hn]
    · intro j hj1 hj2
      have hj : j < ds.length := hj1
      simp only [List.getElem_map, List.getElem_range, List.flatMap_def]
      rw [flatten_drop16 _ h1 j (by simpa using hj), flatten_drop16 _ h2 j (by simpa using hj)]
      simp
  have e2 : layLamp ⟨ds.flatMap (·.take 16), ds.flatMap (·.drop 16)⟩ = ((List.range 32).map (fun j => (((ds.flatMap (·.take 16)).drop (j * 16)).take 16 ++ ((ds.flatMap (·.drop 16)).drop (j * 16)).take 16))).flatten := by
    simp only [layLamp, lampTo, List.flatMap_def]
  rw [e2, ← e]

theorem takeLamp_inv : Inv takeLamp layLamp := by
  intro s h
  unfold takeLamp at *
  simp only at *
  obtain ⟨h1, h2⟩ := times_inv PS.sum id sum_inv 32 s h
  refine ⟨h1, ?_⟩
  simp only [List.flatMap_id] at h2
  rw [h2, layLamp_of _ (times_len _ _ _) (fun d hd => by obtain ⟨s', rfl⟩ := times_all _ _ _ _ hd; exact sum_len s')]

theorem takeSig_inv : Inv takeSig laySig := by
  intro s h
  unfold takeSig at *
  simp only at *
  generalize e1 : s.num 4 = p1 at *
  generalize e2 : p1.2.many 8 = p2 at *
  generalize e3 : takeLamp p2.2 = p3 at *
  have hlen := times_len PS.sum p2.1 p3.2
  generalize e4 : times PS.sum p2.1 p3.2 = p4 at *
  have hb : ¬ p4.2.bad ≠ 0 := by simpa using h
  rw [if_neg hb]
  have h4 := times_inv PS.sum id sum_inv p2.1 p3.2 (by rw [e4]; exact h)
  have h3 := takeLamp_inv p2.2 (by rw [e3]; exact h4.1)
  have h2 := many_inv 8 p1.2 (by rw [e2]; exact h3.1)
  have h1 := num_inv 4 s (by rw [e1]; exact h2.1)
  rw [e4] at h4
  rw [e3] at h3
  rw [e2] at h2
  rw [e1] at h1
  refine ⟨h1.1, ?_⟩
  rw [h1.2, h2.2, h3.2, h4.2]
  simp [laySig, List.append_assoc, hlen]

set_option maxHeartbeats 1000000

def bodyBytes (m : Memo) : List UInt8 :=
  if m.kind = 1 then ((enc 8 m.round ++ layOp m.op) ++ layTrail m.trail) ++ laySig m.sig
  else if m.kind = 2 then enc 8 m.round ++ laySig m.sig
  else []
theorem memoBytes_eq (m : Memo) : memoBytes m = [UInt8.ofNat m.kind.toNat] ++ (enc 4 m.channel ++ bodyBytes m) := by
  unfold memoBytes bodyBytes layHead
  split
  · simp [List.append_assoc]
  · split
    · simp [List.append_assoc]
    · simp

theorem Oop.eqz_eq {o : Oop} (h : o.eqz = true) : o = Oop.zero := by
  obtain ⟨k, a, ⟨i, s, am, hh, ex⟩, id⟩ := o
  simp only [Oop.eqz, Cond.eqz, Bool.and_eq_true, beq_iff_eq] at h
  obtain ⟨⟨⟨rfl, rfl⟩, ⟨⟨⟨⟨rfl, rfl⟩, rfl⟩, rfl⟩, rfl⟩⟩, rfl⟩ := h
  rfl
theorem bare_eq {m : Memo} (h : m.bare = true) : m.op = Oop.zero ∧ m.trail = [] := by
  unfold Memo.bare at h
  simp only [Bool.and_eq_true, beq_iff_eq] at h
  exact ⟨Oop.eqz_eq h.1, List.eq_nil_of_length_eq_zero h.2⟩
theorem unsigned_eq {m : Memo} (h : m.unsigned = true) : m.sig = Sig.zero := by
  obtain ⟨k, c, r, o, t, ⟨⟨x, y⟩, key, way⟩⟩ := m
  unfold Memo.unsigned at h
  simp only [Bool.and_eq_true, beq_iff_eq] at h
  obtain ⟨⟨rfl, hw⟩, rfl, rfl⟩ := h
  have := List.eq_nil_of_length_eq_zero hw
  subst this
  rfl
theorem right0 {m : Memo} (h : m.right = true) (hk : m.kind = 0) : m = ⟨0, m.channel, 0, Oop.zero, [], Sig.zero⟩ := by
  unfold Memo.right at h
  rw [if_pos hk] at h
  simp only [Bool.and_eq_true, beq_iff_eq] at h
  obtain ⟨⟨hb, hu⟩, hr⟩ := h
  have h1 := bare_eq hb
  have h2 := unsigned_eq hu
  obtain ⟨k, c, r, o, t, s⟩ := m
  simp only at hk hr h1 h2
  obtain ⟨rfl, rfl⟩ := h1
  subst hk hr h2
  rfl

theorem readMemo_of (k ch : Nat) (body : List UInt8) (m : Memo) (hk : k < 256) (hch : ch < 2 ^ 32) (hb : readBody k ch ⟨body, 0⟩ = (m, ⟨[], 0⟩)) (hr : m.right = true) :
    readMemo ([UInt8.ofNat k] ++ (enc 4 ch ++ body)) = (m, 0) := by
  unfold readMemo
  simp only
  rw [num1_reads k hk]
  simp only
  rw [num_reads 4 ch (by simpa using hch)]
  simp only
  rw [hb]
  simp [hr, PS.fin]

theorem readMemo_bytes (m : Memo) (hok : m.Ok) (hr : m.right = true) : readMemo (memoBytes m) = (m, 0) := by
  rw [memoBytes_eq]
  rcases right_kind hr with hk | hk | hk
  · have e := right0 hr hk
    have hb : bodyBytes m = [] := by unfold bodyBytes; rw [if_neg (by omega), if_neg (by omega)]
    refine readMemo_of _ _ _ _ (by omega) hok.channel ?_ hr
    rw [hb, hk]
    show readBody 0 m.channel ⟨[], 0⟩ = _
    rw [readBody0]
    exact congrArg (fun x => (x, PS.mk [] 0)) e.symm
  · obtain ⟨h11, h12, h13, h14⟩ := right1 hr hk
    have hop := hok.oop hr hk
    have hb : bodyBytes m = enc 8 m.round ++ (layOp m.op ++ (layTrail m.trail ++ laySig m.sig)) := by unfold bodyBytes; rw [if_pos hk]; simp [List.append_assoc]
    refine readMemo_of _ _ _ _ (by omega) hok.channel ?_ hr
    rw [hb, hk]
    show readBody 1 m.channel _ = _
    have e1 := num_reads 8 m.round (by simpa using hok.round) (layOp m.op ++ (layTrail m.trail ++ laySig m.sig))
    have e2 := takeOp_reads m.op hop h14 (layTrail m.trail ++ laySig m.sig)
    have e3 := takeTrail_reads m.trail h12 hok.hops (laySig m.sig)
    have e4 := takeSig_reads m.sig hok.full.sig hok.key h13 []
    rw [List.append_nil] at e4
    rw [readBody1, e1]
    simp only
    rw [e2]
    simp only
    rw [e3]
    simp only
    rw [e4]
    obtain ⟨k, c, r, o, t, s⟩ := m
    simp only at hk
    subst hk
    rfl
  · obtain ⟨hbare, hw⟩ := right2 hr hk
    obtain ⟨ho, ht⟩ := bare_eq hbare
    have hb : bodyBytes m = enc 8 m.round ++ laySig m.sig := by unfold bodyBytes; rw [if_neg (by omega), if_pos hk]
    refine readMemo_of _ _ _ _ (by omega) hok.channel ?_ hr
    rw [hb, hk]
    show readBody 2 m.channel _ = _
    have e1 := num_reads 8 m.round (by simpa using hok.round) (laySig m.sig)
    have e4 := takeSig_reads m.sig hok.full.sig hok.key hw []
    rw [List.append_nil] at e4
    rw [readBody2, e1]
    simp only
    rw [e4]
    obtain ⟨k, c, r, o, t, s⟩ := m
    simp only at hk ho ht
    subst hk ho ht
    rfl

/-! ### The other way -/
theorem fin_inv (s : PS) (h : s.fin.bad = 0) : s.bad = 0 ∧ s.rest = [] := by
  unfold PS.fin at h
  split at h
  · exact (fail_bad s 10 (by decide) h).elim
  · rename_i hl
    exact ⟨h, List.eq_nil_of_length_eq_zero (by omega)⟩

theorem readBody_inv (k ch : Nat) (s : PS) (h : (readBody k ch s).2.bad = 0) : s.bad = 0 ∧ s.rest = bodyBytes (readBody k ch s).1 ++ (readBody k ch s).2.rest ∧ (readBody k ch s).1.kind = k ∧ (readBody k ch s).1.channel = ch := by
  by_cases h0 : k = 0
  · subst h0
    rw [readBody0] at *
    exact ⟨h, by simp [bodyBytes], rfl, rfl⟩
  · by_cases h1 : k = 1
    · subst h1
      rw [readBody1] at *
      simp only at *
      have i4 := takeSig_inv _ h
      have i3 := takeTrail_inv _ i4.1
      have i2 := takeOp_inv _ i3.1
      have i1 := num_inv 8 _ i2.1
      refine ⟨i1.1, ?_, by trivial, by trivial⟩
      conv => lhs; rw [i1.2, i2.2, i3.2, i4.2]
      unfold bodyBytes
      rw [if_pos (by rfl)]
      simp [List.append_assoc]
    · by_cases h2 : k = 2
      · subst h2
        rw [readBody2] at *
        simp only at *
        have i4 := takeSig_inv _ h
        have i1 := num_inv 8 _ i4.1
        refine ⟨i1.1, ?_, by trivial, by trivial⟩
        conv => lhs; rw [i1.2, i4.2]
        unfold bodyBytes
        rw [if_neg (show ¬ ((2 : Nat) : Int) = 1 by decide), if_pos (by rfl)]
        simp [List.append_assoc]
      · rw [readBody3 k ch s h0 h1 h2] at h
        exact (fail_bad s 10 (by decide) h).elim

theorem readMemo_inv (b : List UInt8) (h : (readMemo b).2 = 0) : (readMemo b).1.right = true ∧ memoBytes (readMemo b).1 = b := by
  unfold readMemo at *
  simp only at *
  generalize e1 : (PS.mk b 0).num 1 = p1 at *
  generalize e2 : p1.2.num 4 = p2 at *
  generalize e3 : readBody p1.1 p2.1 p2.2 = p3 at *
  by_cases hc : p3.2.bad = 0 ∧ p3.1.right = false
  · rw [if_pos hc] at h
    have hb : (p3.2.fail 10).fin.bad ≠ 0 := fun h0 => fail_bad _ 10 (by decide) (fin_inv _ h0).1
    rw [if_pos hb] at h
    exact (hb h).elim
  · rw [if_neg hc] at *
    by_cases hf : p3.2.fin.bad = 0
    · have hf' : ¬ p3.2.fin.bad ≠ 0 := by simpa using hf
      rw [if_neg hf']
      obtain ⟨hbad, hrest⟩ := fin_inv _ hf
      have hr : p3.1.right = true := by
        cases hq : p3.1.right with
        | true => rfl
        | false => exact (hc ⟨hbad, hq⟩).elim
      refine ⟨hr, ?_⟩
      obtain ⟨i3, i4, i5, i6⟩ := readBody_inv p1.1 p2.1 p2.2 (by rw [e3]; exact hbad)
      rw [e3] at i4 i5 i6
      obtain ⟨i1, i2⟩ := num_inv 4 p1.2 (by rw [e2]; exact i3)
      rw [e2] at i2
      obtain ⟨-, i0⟩ := num1_inv ⟨b, 0⟩ (by rw [e1]; exact i1)
      rw [e1] at i0
      simp only at i0
      rw [memoBytes_eq, i5, i6]
      conv => rhs; rw [i0, i2, i4, hrest]
      simp
    · rw [if_pos hf] at h
      exact (hf h).elim

/-! ### What is read is in its bounds -/
theorem takeCond_nums (s : PS) : (takeCond s).1.id < 2 ^ 64 ∧ (takeCond s).1.amount < 2 ^ 64 ∧ (takeCond s).1.expiry < 2 ^ 64 := by
  unfold takeCond
  simp only
  have h1 := num8_lt s
  have h2 := num8_lt ((s.num 8).2.num 1).2
  have h3 := num8_lt (((s.num 8).2.num 1).2.num 8).2.sum.2
  exact ⟨by omega, by omega, by omega⟩
theorem takeOp_nums (s : PS) : ((takeOp s).1.cond.id < 2 ^ 64 ∧ (takeOp s).1.cond.amount < 2 ^ 64 ∧ (takeOp s).1.cond.expiry < 2 ^ 64) ∧ ((takeOp s).1.amount < 2 ^ 64 ∧ (takeOp s).1.id < 2 ^ 64) := by
  unfold takeOp
  simp only
  split
  · exact ⟨by simp [Oop.zero, Cond.zero], by simp [Oop.zero]⟩
  · have h1 := num8_lt (s.num 1).2
    have h2 := num8_lt ((s.num 1).2.num 8).2
    exact ⟨takeCond_nums _, by simp only; omega, by simp only; omega⟩
theorem takeSig_key (s : PS) : (takeSig s).1.key < 2 ^ 32 := by
  unfold takeSig
  simp only
  split
  · simp [Sig.zero]
  · have := num4_lt s
    simp only
    omega
theorem ok_zero {k : Int} {c : Nat} (h : c < 2 ^ 32) : (Memo.mk k c 0 Oop.zero [] Sig.zero).Ok :=
  ⟨⟨Memo.Fit.zero', Sig.zero_fit⟩, h, by simp, by simp [Oop.zero, Cond.zero], by simp [Oop.zero], fun _ h => (by cases h), by simp [Sig.zero]⟩
theorem readBody_ok (k ch : Nat) (hch : ch < 2 ^ 32) (s : PS) : (readBody k ch s).1.Ok := by
  by_cases h0 : k = 0
  · subst h0; rw [readBody0]; exact ok_zero hch
  · by_cases h1 : k = 1
    · subst h1; rw [readBody1]
      have hr := num8_lt s
      exact ⟨⟨⟨takeOp_hash _, (takeSig_lens _).1, (takeSig_lens _).2⟩, takeSig_fit _⟩, hch, by simp only; omega, (takeOp_nums _).1, (takeOp_nums _).2, takeTrail_hops _, takeSig_key _⟩
    · by_cases h2 : k = 2
      · subst h2; rw [readBody2]
        have hr := num8_lt s
        exact ⟨⟨⟨zb_length 32, (takeSig_lens _).1, (takeSig_lens _).2⟩, takeSig_fit _⟩, hch, by simp only; omega, by simp [Oop.zero, Cond.zero], by simp [Oop.zero], fun _ h => (by cases h), takeSig_key _⟩
      · rw [readBody3 k ch s h0 h1 h2]; exact ok_zero hch
theorem readMemo_okM (l : List UInt8) : (readMemo l).1.Ok := by
  have key : ∀ (s : PS) (m : Memo), m.Ok → (if s.fin.bad ≠ 0 then (Memo.zero, s.fin.bad) else (m, (0 : Int))).1.Ok := by
    intro s m h
    split
    · exact ok_zero (by simp)
    · exact h
  refine key _ _ (readBody_ok _ _ ?_ _)
  have := num4_lt ((PS.mk l 0).num 1).2
  omega

end Go.Proofs.Ytldmkafobbemjaa
namespace Go.Proofs.Ytldmkafobbemjaa
set_option linter.unusedSimpArgs false
set_option linter.unusedVariables false
open Go Go.RowKit
set_option maxRecDepth 100000
set_option maxHeartbeats 1000000

structure State.Ok (s : State) : Prop where
  channel : s.channel < 2 ^ 32
  round : s.round < 2 ^ 64
  m0 : s.m0 < 2 ^ 64
  m1 : s.m1 < 2 ^ 64
  t0 : s.t0 < 2 ^ 64
  t1 : s.t1 < 2 ^ 64
  conds : ∀ c, c ∈ s.conds → c.Ok
def layState (s : State) : List UInt8 := ((enc 4 s.channel ++ eights [s.round, s.m0, s.m1, s.t0, s.t1]) ++ [UInt8.ofNat s.conds.length]) ++ s.conds.flatMap layCond
def deedBytes (d : Deed) : List UInt8 := if 0 < d.s.round then (layState d.s ++ laySig d.a) ++ laySig d.b else layState d.s

theorem takeState_reads (s : State) (hs : s.Ok) (hc : ∀ c, c ∈ s.conds → c.side = 0 ∨ c.side = 1) (hl : s.conds.length ≤ 8) : Reads takeState (layState s) s := by
  intro r
  obtain ⟨ch, rd, m0, m1, t0, t1, cs⟩ := s
  obtain ⟨h1, h2, h3, h4, h5, h6, h7⟩ := hs
  simp only at h1 h2 h3 h4 h5 h6 h7 hc hl
  unfold takeState layState
  simp only [eights, List.flatMap_cons, List.flatMap_nil, List.append_assoc, List.append_nil, List.nil_append]
  rw [num_reads 4 ch (by simpa using h1)]
  simp only
  rw [num_reads 8 rd (by simpa using h2)]
  simp only
  rw [num_reads 8 m0 (by simpa using h3)]
  simp only
  rw [num_reads 8 m1 (by simpa using h4)]
  simp only
  rw [num_reads 8 t0 (by simpa using h5)]
  simp only
  rw [num_reads 8 t1 (by simpa using h6)]
  simp only
  rw [many_reads 8 cs.length hl (by omega)]
  simp only
  rw [times_reads' takeCond layCond cs (fun c hcm => takeCond_reads c (h7 c hcm) (hc c hcm)) r]
  simp

structure Deed.Ok (d : Deed) : Prop where
  s : d.s.Ok
  a : d.a.Fit
  b : d.b.Fit
  ka : d.a.key < 2 ^ 32
  kb : d.b.key < 2 ^ 32

theorem readDeed_bytes (d : Deed) (hok : d.Ok) (hc : ∀ c, c ∈ d.s.conds → c.side = 0 ∨ c.side = 1) (hl : d.s.conds.length ≤ 8) (ha : d.a.way.length ≤ 8) (hb : d.b.way.length ≤ 8)
    (h0 : d.s.round = 0 → d.a = Sig.zero ∧ d.b = Sig.zero) : readDeed (deedBytes d) = (d, 0) := by
  obtain ⟨s, a, b⟩ := d
  obtain ⟨h1, h2, h3, h4, h5⟩ := hok
  simp only at h1 h2 h3 h4 h5 hc hl ha hb h0
  unfold readDeed deedBytes
  simp only
  by_cases hr : 0 < s.round
  · rw [if_pos hr]
    have e1 := takeState_reads s h1 hc hl (laySig a ++ laySig b)
    have e2 := takeSig_reads a h2 h4 ha (laySig b)
    have e3 := takeSig_reads b h3 h5 hb []
    rw [List.append_nil] at e3
    rw [List.append_assoc, e1]
    simp only
    rw [if_pos hr, e2]
    simp only
    rw [e3]
    simp [PS.fin]
  · rw [if_neg hr]
    have e1 := takeState_reads s h1 hc hl []
    rw [List.append_nil] at e1
    rw [e1]
    simp only
    rw [if_neg hr]
    obtain ⟨rfl, rfl⟩ := h0 (by omega)
    simp [PS.fin]

/-! ### What is read is in its bounds -/
structure State.Small (s : State) : Prop where
  conds : s.conds.length ≤ 8
  hash : ∀ c, c ∈ s.conds → c.hash.length = 32
theorem State.zero_small : State.zero.Small := ⟨by simp [State.zero], fun c h => by cases h⟩
theorem takeState_small (s : PS) : (takeState s).1.Small := by
  simp only [takeState]
  split
  · exact State.zero_small
  · refine ⟨?_, ?_⟩
    · simp only [times_len]; exact many_le 8 _
    · intro c hc
      obtain ⟨s', rfl⟩ := times_all _ _ _ _ hc
      exact takeCond_hash s'
structure Deed.Small (d : Deed) : Prop where
  s : d.s.Small
  a : d.a.Fit
  b : d.b.Fit
  wa : d.a.way.length ≤ 8
  wb : d.b.way.length ≤ 8
theorem Deed.zero_small : Deed.zero.Small := ⟨State.zero_small, Sig.zero_fit, Sig.zero_fit, by simp [Deed.zero, Sig.zero], by simp [Deed.zero, Sig.zero]⟩
theorem readDeed_small (l : List UInt8) : (readDeed l).1.Small := by
  have key : ∀ (d : Deed × PS), d.1.Small → (if d.2.fin.bad ≠ 0 then (Deed.zero, d.2.fin.bad) else (d.1, (0 : Int))).1.Small := by
    intro d h
    split
    · exact Deed.zero_small
    · exact h
  refine key _ ?_
  split
  · exact ⟨takeState_small _, takeSig_fit _, takeSig_fit _, (takeSig_way _).2, (takeSig_way _).2⟩
  · exact ⟨takeState_small _, Sig.zero_fit, Sig.zero_fit, by simp [Sig.zero], by simp [Sig.zero]⟩

/-- The deed of the round nothing, its bytes. -/
def firstDeed (ch : Nat) : Deed := ⟨⟨ch, 0, 0, 0, 0, 0, []⟩, Sig.zero, Sig.zero⟩
theorem firstDeed_ok (ch : Nat) (h : ch < 2 ^ 32) : (firstDeed ch).Ok :=
  ⟨⟨h, by simp [firstDeed], by simp [firstDeed], by simp [firstDeed], by simp [firstDeed], by simp [firstDeed], fun c hc => by cases hc⟩, Sig.zero_fit, Sig.zero_fit, by simp [firstDeed, Sig.zero], by simp [firstDeed, Sig.zero]⟩
theorem firstDeed_read (ch : Nat) (h : ch < 2 ^ 32) : readDeed (deedBytes (firstDeed ch)) = (firstDeed ch, 0) :=
  readDeed_bytes _ (firstDeed_ok ch h) (fun c hc => by cases hc) (by simp [firstDeed]) (by simp [firstDeed, Sig.zero]) (by simp [firstDeed, Sig.zero]) (fun _ => ⟨rfl, rfl⟩)
theorem firstDeed_len (ch : Nat) : (deedBytes (firstDeed ch)).length = 45 := by
  simp [deedBytes, firstDeed, layState, eights, enc_length]

end Go.Proofs.Ytldmkafobbemjaa
