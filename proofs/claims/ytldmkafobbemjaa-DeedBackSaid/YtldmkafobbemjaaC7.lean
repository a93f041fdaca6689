/-
  A memo that came in, opened; bytes that came in; what a call has left alone.
-/
import Derived.Test.YtldmkafobbemjaaB8
import Derived.Below
import Derived.ProofKit
import Derived.OpenShut
import Derived.Deep.Slices
import Derived.ChangeSame
namespace Go.Proofs.Ytldmkafobbemjaa
set_option linter.unusedSimpArgs false
set_option linter.unusedVariables false
open Go Go.RowKit Go.ChangeShapes Go.Deep
set_option maxRecDepth 100000
theorem St.below {w w' : World} {L : List Ent} (h : St w [] w' L) : Below w.heap.size w w' := ⟨h.os, h.tape, h.output, h.size, fun k hk => h.keep k hk (by simp)⟩

theorem rowR_of_ints (x : Addr) (len0 cap0 : Nat) (z0 : List Int) (w : World) (hl : len0 ≤ cap0) (hz : z0.length = cap0) (hcell : ∀ i, i < z0.length → w.cell? (x.add i) = some (.int .u8 (z0.getD i 0)))
    (hwz : ∀ n ∈ z0, (Lit.int .u8 n).wf = true) : ∃ l : List UInt8, l.length = len0 ∧ RowR w 1 (.slice (some x) l.length cap0) l.length (bs l) := by
  have hlen : ((z0.take len0).map (fun n => UInt8.ofNat n.toNat)).length = len0 := by
    rw [List.length_map, List.length_take]; omega
  refine ⟨(z0.take len0).map (fun n => UInt8.ofNat n.toNat), hlen, by rw [bs_length, Nat.mul_one], .inr ⟨x, cap0, rfl, by omega, ?_, ?_⟩⟩
  · by_cases h0 : len0 = 0
    · exact .inl (by omega)
    · right
      obtain ⟨b, off, spot⟩ := x
      have hc := hcell 0 (by omega)
      simpa [Addr.add] using World.cell?_spot hc
  · intro j v hj
    have hj1 := (List.getElem?_eq_some_iff.1 hj).1
    rw [bs_length, hlen] at hj1
    have hj2 : j < z0.length := by omega
    have hw := hwz (z0[j]) (List.getElem_mem hj2)
    have h2 : 0 ≤ z0[j] ∧ z0[j] ≤ 255 := by
      simp [Lit.wf, IntKind.min, IntKind.max, IntKind.signed, IntKind.bits] at hw
      omega
    rw [hcell j hj2]
    have e : z0.getD j 0 = z0[j] := by simp [List.getD, List.getElem?_eq_getElem hj2]
    rw [e]
    simp only [bs, List.getElem?_map, List.getElem?_take, hj1, if_true, List.getElem?_eq_getElem hj2, Option.map_some, Option.some.injEq, B_ofNat] at hj
    rw [← hj, Nat.mod_eq_of_lt (by omega), Int.toNat_of_nonneg h2.1]

set_option maxHeartbeats 1000000

def LikeW : List IntKind → List Value → Prop
  | [], [] => True
  | k :: ks, c :: cs => (∃ n, c = .int k n ∧ (Lit.int k n).wf = true) ∧ LikeW ks cs
  | _, _ => False
theorem LikeW.len : ∀ {ks : List IntKind} {cs : List Value}, LikeW ks cs → cs.length = ks.length
  | [], [], _ => rfl
  | [], _ :: _, h => h.elim
  | _ :: _, [], h => h.elim
  | _ :: ks, _ :: cs, h => by simp [LikeW.len h.2]
theorem LikeW.split : ∀ (ks ks' : List IntKind) (cs : List Value), LikeW (ks ++ ks') cs → LikeW ks (cs.take ks.length) ∧ LikeW ks' (cs.drop ks.length)
  | [], ks', cs, h => ⟨trivial, by simpa using h⟩
  | k :: ks, ks', [], h => h.elim
  | k :: ks, ks', c :: cs, h => by
    obtain ⟨h1, h2⟩ := LikeW.split ks ks' cs h.2
    exact ⟨⟨h.1, h1⟩, h2⟩
theorem LikeW.append : ∀ {ks ks' : List IntKind} {cs cs' : List Value}, LikeW ks cs → LikeW ks' cs' → LikeW (ks ++ ks') (cs ++ cs')
  | [], _, [], _, _, h => h
  | [], _, _ :: _, _, h, _ => h.elim
  | _ :: _, _, [], _, h, _ => h.elim
  | _ :: _, _, _ :: _, _, h, h' => ⟨h.1, LikeW.append h.2 h'⟩

/-- What is read as a value of type t is so many whole numbers of these kinds. -/
structure OTy (P : Program) (t : TypeId) (ks : List IntKind) : Prop where
  cells : P.cellsOf t = ks.length
  opens : ∀ {H : Type} (enc : TypeId × Value → H) (w : World) (base : Nat) (spare : Nat → Bool) (held : Bool) (fuel : Nat) (cs : List Value) (x : DataW H × List MemPlace),
    DataW.trod enc P w base spare held fuel t cs = some x → LikeW ks cs

theorem oty_int {P : Program} {t : TypeId} {k : IntKind} (ht : P.underlying t = some (.int k)) (hc : P.cellsOf t = 1) : OTy P t [k] where
  cells := hc
  opens := by
    intro H enc w base spare held fuel cs x h
    obtain ⟨n, rfl, _, hw⟩ := DataW.trod_int ht h
    exact ⟨⟨n, rfl, hw⟩, trivial⟩

theorem likeW_blocks (ks : List IntKind) : ∀ (n : Nat) (cs : List Value), cs.length = n * ks.length → (∀ i, i < n → LikeW ks ((cs.drop (i * ks.length)).take ks.length)) → LikeW (List.replicate n ks).flatten cs
  | 0, cs, hl, _ => by
    have : cs = [] := List.eq_nil_of_length_eq_zero (by simpa using hl)
    subst this
    exact trivial
  | n + 1, cs, hl, h => by
    have h0 := h 0 (by omega)
    rw [Nat.zero_mul, List.drop_zero] at h0
    have hr := likeW_blocks ks n (cs.drop ks.length) (by rw [List.length_drop, hl, Nat.add_mul]; omega) (fun i hi => by
      have := h (i + 1) (by omega)
      rw [List.drop_drop, show ks.length + i * ks.length = (i + 1) * ks.length by rw [Nat.add_mul]; omega]
      exact this)
    have := LikeW.append h0 hr
    rw [List.take_append_drop] at this
    simpa [List.replicate_succ] using this

theorem oty_array {P : Program} {t e : TypeId} {n : Nat} {ks : List IntKind} (ht : P.underlying t = some (.array n e)) (he : OTy P e ks) (hc : P.cellsOf t = n * ks.length) : OTy P t (List.replicate n ks).flatten where
  cells := by rw [hc, rep_len]
  opens := by
    intro H enc w base spare held fuel cs x h
    obtain ⟨xs, m, _, _, hl, hn, hx⟩ := DataW.trod_array ht h
    rw [hc] at hl
    refine likeW_blocks ks n cs hl (fun i hi => ?_)
    have h1 := hx i hi
    rw [he.cells, List.getElem?_eq_getElem (by omega)] at h1
    exact he.opens _ _ _ _ _ _ _ _ h1

inductive OFields (P : Program) : List Field → Nat → List IntKind → Prop
  | nil {off : Nat} : OFields P [] off []
  | cons {f : Field} {fs : List Field} {off : Nat} {ks ks' : List IntKind} (ho : f.offset = off) (hf : OTy P f.type ks) (hr : OFields P fs (off + ks.length) ks') : OFields P (f :: fs) off (ks ++ ks')

theorem OFields.opens {P : Program} {fs : List Field} {off : Nat} {ks : List IntKind} (h : OFields P fs off ks) {H : Type} (enc : TypeId × Value → H) (w : World) (base : Nat) (spare : Nat → Bool) (held : Bool) (fuel : Nat) (cs : List Value)
    (hx : ∀ f, f ∈ fs → ∃ y, DataW.trod enc P w base spare held fuel f.type ((cs.drop f.offset).take (P.cellsOf f.type)) = some y) (hl : off + ks.length ≤ cs.length) : LikeW ks ((cs.drop off).take ks.length) := by
  induction h with
  | nil => simp [LikeW]
  | @cons f fs off ks ks' ho hf hr ih =>
    obtain ⟨y, hy⟩ := hx f (by simp)
    rw [ho, hf.cells] at hy
    have h1 := hf.opens _ _ _ _ _ _ _ _ hy
    rw [List.length_append] at hl
    have h2 := ih (fun g hg => hx g (by simp [hg])) (by omega)
    have h3 := LikeW.append h1 h2
    have e : (cs.drop off).take ks.length ++ (cs.drop (off + ks.length)).take ks'.length = (cs.drop off).take (ks ++ ks').length := by
      rw [List.length_append, List.take_add, List.drop_drop]
    rwa [e] at h3

theorem oty_struct {P : Program} {t : TypeId} {fs : Array Field} {ks : List IntKind} (ht : P.underlying t = some (.struct fs)) (hf : OFields P fs.toList 0 ks) (hc : P.cellsOf t = ks.length) : OTy P t ks where
  cells := hc
  opens := by
    intro H enc w base spare held fuel cs x h
    obtain ⟨xs, n, _, _, hl, hn, hx⟩ := DataW.trod_struct ht h
    have h1 := hf.opens enc w base spare held n cs (fun f hfm => by
      obtain ⟨i, hi, rfl⟩ := List.getElem_of_mem hfm
      have h2 := hx i fs.toList[i] (by simp)
      rw [List.getElem?_eq_getElem (by rw [hn]; simpa using hi)] at h2
      exact ⟨_, h2⟩) (by rw [hl, hc]; omega)
    rw [List.drop_zero, List.take_of_length_le (by rw [hl, hc]; exact Nat.le_refl _)] at h1
    exact h1

/-! ### The values behind the numbers -/
theorem likeW_bs : ∀ (n : Nat) (cs : List Value), LikeW (rep8 n) cs → ∃ l : List UInt8, l.length = n ∧ cs = bs l
  | 0, [], _ => ⟨[], rfl, rfl⟩
  | 0, _ :: _, h => h.elim
  | n + 1, [], h => h.elim
  | n + 1, c :: cs, h => by
    obtain ⟨⟨k, rfl, hw⟩, h2⟩ := h
    obtain ⟨l, hl, rfl⟩ := likeW_bs n cs h2
    have h3 : 0 ≤ k ∧ k ≤ 255 := by
      simp [Lit.wf, IntKind.min, IntKind.max, IntKind.signed, IntKind.bits] at hw
      omega
    refine ⟨UInt8.ofNat k.toNat :: l, by simp [hl], ?_⟩
    have := B_small k.toNat (by omega)
    simp only [bs, List.map_cons, List.map_nil] at this ⊢
    rw [Int.toNat_of_nonneg h3.1] at this
    simp only [List.cons.injEq, and_true] at this
    rw [this]

theorem wf_u64 {n : Int} (h : (Lit.int .u64 n).wf = true) : ∃ k : Nat, n = k ∧ k < 2 ^ 64 := by
  simp [Lit.wf, IntKind.min, IntKind.max, IntKind.signed, IntKind.bits] at h
  exact ⟨n.toNat, by omega, by omega⟩
theorem wf_u32 {n : Int} (h : (Lit.int .u32 n).wf = true) : ∃ k : Nat, n = k ∧ k < 2 ^ 32 := by
  simp [Lit.wf, IntKind.min, IntKind.max, IntKind.signed, IntKind.bits] at h
  exact ⟨n.toNat, by omega, by omega⟩

theorem LikeW.uncons {k : IntKind} {ks : List IntKind} : ∀ {cs : List Value}, LikeW ([k] ++ ks) cs → ∃ n cs', cs = .int k n :: cs' ∧ (Lit.int k n).wf = true ∧ LikeW ks cs'
  | [], h => h.elim
  | c :: cs, h => by
    obtain ⟨⟨n, rfl, hw⟩, h2⟩ := h
    exact ⟨n, cs, rfl, hw, h2⟩
theorem LikeW.nil_eq : ∀ {cs : List Value}, LikeW [] cs → cs = []
  | [], _ => rfl
  | _ :: _, h => h.elim

theorem likeW_cond (cs : List Value) (h : LikeW kCond cs) : ∃ c : Cond, cs = c.cells ∧ c.hash.length = 32 ∧ (c.id < 2 ^ 64 ∧ c.amount < 2 ^ 64 ∧ c.expiry < 2 ^ 64) := by
  unfold kCond at h
  obtain ⟨n1, cs, rfl, w1, h⟩ := h.uncons
  obtain ⟨n2, cs, rfl, w2, h⟩ := h.uncons
  obtain ⟨n3, cs, rfl, w3, h⟩ := h.uncons
  obtain ⟨h1, h2⟩ := LikeW.split _ _ _ h
  rw [rep8_len] at h1 h2
  obtain ⟨l, hl, e⟩ := likeW_bs 32 _ h1
  obtain ⟨n4, cs4, e4, w4, h4⟩ := h2.uncons
  have h5 := h4.nil_eq
  subst h5
  obtain ⟨k1, rfl, b1⟩ := wf_u64 w1
  obtain ⟨k3, rfl, b3⟩ := wf_u64 w3
  obtain ⟨k4, rfl, b4⟩ := wf_u64 w4
  refine ⟨⟨k1, n2, k3, l, k4⟩, ?_, hl, b1, b3, b4⟩
  show _ = [Value.int .u64 k1, Value.int .i64 n2, Value.int .u64 k3] ++ bs l ++ [Value.int .u64 k4]
  rw [← e, ← e4, List.append_assoc, List.take_append_drop]
  rfl

theorem likeW_op (cs : List Value) (h : LikeW kOp cs) : ∃ o : Oop, cs = o.cells ∧ o.cond.hash.length = 32 ∧ (o.cond.id < 2 ^ 64 ∧ o.cond.amount < 2 ^ 64 ∧ o.cond.expiry < 2 ^ 64) ∧ (o.amount < 2 ^ 64 ∧ o.id < 2 ^ 64) := by
  unfold kOp at h
  obtain ⟨n1, cs, rfl, w1, h⟩ := h.uncons
  obtain ⟨n2, cs, rfl, w2, h⟩ := h.uncons
  obtain ⟨h1, h2⟩ := LikeW.split _ _ _ h
  rw [kCond_len] at h1 h2
  obtain ⟨c, e, hc, hb⟩ := likeW_cond _ h1
  obtain ⟨n4, cs4, e4, w4, h4⟩ := h2.uncons
  have h5 := h4.nil_eq
  subst h5
  obtain ⟨k2, rfl, b2⟩ := wf_u64 w2
  obtain ⟨k4, rfl, b4⟩ := wf_u64 w4
  refine ⟨⟨n1, k2, c, k4⟩, ?_, hc, hb, b2, b4⟩
  show _ = [Value.int .i64 n1, Value.int .u64 k2] ++ c.cells ++ [Value.int .u64 k4]
  rw [← e, ← e4, List.append_assoc, List.take_append_drop]
  rfl

theorem likeW_hop (cs : List Value) (h : LikeW kHop cs) : ∃ x : Hop, cs = x.cells ∧ x.Ok := by
  unfold kHop at h
  obtain ⟨n1, cs, rfl, w1, h⟩ := h.uncons
  obtain ⟨n2, cs, rfl, w2, h⟩ := h.uncons
  obtain ⟨n3, cs, rfl, w3, h⟩ := h.uncons
  have h5 := h.nil_eq
  subst h5
  obtain ⟨k1, rfl, b1⟩ := wf_u32 w1
  obtain ⟨k2, rfl, b2⟩ := wf_u64 w2
  obtain ⟨k3, rfl, b3⟩ := wf_u64 w3
  exact ⟨⟨k1, k2, k3⟩, rfl, b1, b2, b3⟩

theorem likeW_lsig (cs : List Value) (h : LikeW kLSig cs) : ∃ s : LSig, cs = s.cells ∧ s.shown.length = 512 ∧ s.other.length = 512 := by
  unfold kLSig at h
  rw [List.append_nil] at h
  obtain ⟨h1, h2⟩ := LikeW.split (rep8 512) (rep8 512) cs h
  rw [rep8_len] at h1 h2
  obtain ⟨x, hx, e1⟩ := likeW_bs 512 _ h1
  obtain ⟨y, hy, e2⟩ := likeW_bs 512 _ h2
  refine ⟨⟨x, y⟩, ?_, hx, hy⟩
  show cs = bs x ++ bs y
  rw [← e1, ← e2, List.take_append_drop]

set_option maxHeartbeats 1000000

theorem o_u8 : OTy Try.prog 5 [.u8] := oty_int Try.underlying5 (by kernel_rfl)
theorem o_int : OTy Try.prog 3 [.i64] := oty_int Try.underlying3 (by kernel_rfl)
theorem o_u32 : OTy Try.prog 26 [.u32] := oty_int Try.underlying26 (by kernel_rfl)
theorem o_u64 : OTy Try.prog 27 [.u64] := oty_int Try.underlying27 (by kernel_rfl)
theorem rep_one (n : Nat) : (List.replicate n [IntKind.u8]).flatten = rep8 n := by
  simp [rep8]
theorem o_arr32 : OTy Try.prog 22 (rep8 32) := by
  have := oty_array (n := 32) Try.underlying22 o_u8 (by kernel_rfl)
  rwa [rep_one] at this
theorem o_piece : OTy Try.prog 60 (rep8 16) := by
  have := oty_array (n := 16) Try.underlying60 o_u8 (by kernel_rfl)
  rwa [rep_one] at this
theorem o_pieces : OTy Try.prog 61 (rep8 512) := by
  have := oty_array (n := 32) Try.underlying61 o_piece (by rw [rep8_len]; kernel_rfl)
  rwa [rep8_flat] at this
theorem o_lsig : OTy Try.prog 63 kLSig :=
  oty_struct Try.underlying63 (.cons rfl o_pieces (.cons (by simp [rep8_len]) o_pieces .nil)) (by rw [kLSig_len]; kernel_rfl)
theorem o_cond : OTy Try.prog 91 kCond :=
  oty_struct Try.underlying91 (.cons rfl o_u64 (.cons rfl o_int (.cons rfl o_u64 (.cons rfl o_arr32 (.cons (by simp [rep8_len]) o_u64 .nil))))) (by rw [kCond_len]; kernel_rfl)
theorem o_op : OTy Try.prog 93 kOp :=
  oty_struct Try.underlying93 (.cons rfl o_int (.cons rfl o_u64 (.cons rfl o_cond (.cons (by simp [kCond_len]) o_u64 .nil)))) (by rw [kOp_len]; kernel_rfl)
theorem flatMap_cong2 {α β : Type} {l : List α} {f g : α → List β} (h : ∀ x, x ∈ l → f x = g x) : l.flatMap f = l.flatMap g := by
  induction l with
  | nil => rfl
  | cons a l ih => rw [List.flatMap_cons, List.flatMap_cons, h a (by simp), ih (fun x hx => h x (by simp [hx]))]
theorem addr_add (a : Addr) (i j : Nat) : (a.add i).add j = a.add (i + j) := by
  unfold Addr.add
  by_cases hi : i = 0 <;> by_cases hj : j = 0 <;> simp [hi, hj, Nat.add_assoc]

theorem blocks_len (F : Nat → List Value) (sz : Nat) : ∀ n, (∀ i, i < n → (F i).length = sz) → ((List.range n).flatMap F).length = n * sz
  | 0, _ => by simp
  | n + 1, h => by
    rw [List.range_succ, List.flatMap_append, List.length_append, blocks_len F sz n (fun i hi => h i (by omega)), Nat.add_mul]
    simp [h n (by omega)]
theorem blocks_at (w : World) (a : Addr) (F : Nat → List Value) (sz : Nat) : ∀ n, (∀ i, i < n → (F i).length = sz ∧ ∀ r, r < sz → w.cell? (a.add (i * sz + r)) = (F i)[r]?) → CellsAt w a ((List.range n).flatMap F)
  | 0, _ => by intro j v hj; simp at hj
  | n + 1, h => by
    intro j v hj
    have hlen := blocks_len F sz n (fun i hi => (h i (by omega)).1)
    rw [List.range_succ, List.flatMap_append] at hj
    by_cases hlt : j < n * sz
    · rw [List.getElem?_append_left (by omega)] at hj
      exact blocks_at w a F sz n (fun i hi => h i (by omega)) j v hj
    · rw [List.getElem?_append_right (by omega), hlen] at hj
      have hj' : (F n)[j - n * sz]? = some v := by simpa using hj
      have hr : j - n * sz < sz := by
        have := (List.getElem?_eq_some_iff.1 hj').1
        rw [(h n (by omega)).1] at this
        exact this
      have := (h n (by omega)).2 (j - n * sz) hr
      rw [show n * sz + (j - n * sz) = j by omega] at this
      rw [this, hj']

theorem open_rows {H : Type} {enc : TypeId × Value → H} {P : Program} {w : World} {held : Bool} {t e : TypeId} {ks : List IntKind} {fuel : Nat} {cs : List Value} {x : DataW H × List MemPlace} (ht : P.underlying t = some (.slice e)) (he : OTy P e ks) (hp : 0 < ks.length)
    (h : DataW.trod enc P w 0 (fun _ => true) held fuel t cs = some x) :
    ∃ (a : Option Addr) (len c : Nat) (F : Nat → List Value), cs = [.slice a len c] ∧ (∀ i, i < len → LikeW ks (F i)) ∧ RowR w ks.length (.slice a len c) len ((List.range len).flatMap F) := by
  rcases open_slice ht h with ⟨rfl, _⟩ | ⟨a, len, cap, m, n, D, Pl, rfl, _, hl, hm, hmm, _, hx⟩
  · exact ⟨none, 0, 0, fun _ => [], rfl, fun i hi => by omega, by simp, .inl ⟨rfl, rfl⟩⟩
  · simp only [if_true] at hmm
    rw [he.cells] at hx
    obtain ⟨F, hF⟩ := choose_lt (α := List Value) (n := len) (p := fun i cs' => (cs'.length = ks.length ∧ ∀ r, r < ks.length → w.cell? (a.add (i * ks.length + r)) = cs'[r]?) ∧ LikeW ks cs') (fun i hi => by
      obtain ⟨cs', h1, h2⟩ := hx i (by omega)
      obtain ⟨_, h3, h4⟩ := World.cells?_some h1
      refine ⟨cs', ⟨h3, fun r hr => ?_⟩, he.opens _ _ _ _ _ _ _ _ h2⟩
      rw [← addr_add]
      exact h4 r hr)
    refine ⟨some a, len, cap, F, rfl, fun i hi => (hF i hi).2, ?_, .inr ⟨a, cap, rfl, hl, ?_, ?_⟩⟩
    · exact blocks_len F ks.length len (fun i hi => (hF i hi).1.1)
    · by_cases h0 : len = 0
      · exact .inl h0
      · right
        obtain ⟨b, off, spot⟩ := a
        have h1 := hF 0 (by omega)
        have h2 := h1.1.2 0 hp
        rw [List.getElem?_eq_getElem (by rw [h1.1.1]; exact hp)] at h2
        simpa [Addr.add] using World.cell?_spot h2
    · exact blocks_at w a F ks.length len (fun i hi => (hF i hi).1)

instance : Inhabited Hop := ⟨⟨0, 0, 0⟩⟩
theorem open_way {H : Type} {enc : TypeId × Value → H} {w : World} {held : Bool} {fuel : Nat} {cs : List Value} {x : DataW H × List MemPlace} (h : DataW.trod enc Try.prog w 0 (fun _ => true) held fuel 64 cs = some x) :
    ∃ (a : Option Addr) (c : Nat) (l : List (List UInt8)), cs = [.slice a l.length c] ∧ (∀ y, y ∈ l → y.length = 32) ∧ RowR w 32 (.slice a l.length c) l.length (wayCells l) := by
  obtain ⟨a, len, c, F, rfl, h1, h2⟩ := open_rows Try.underlying64 o_arr32 (by rw [rep8_len]; omega) h
  rw [rep8_len] at h2
  obtain ⟨f, hf⟩ := choose_lt (α := List UInt8) (n := len) (p := fun i y => y.length = 32 ∧ F i = bs y) (fun i hi => likeW_bs 32 _ (h1 i hi))
  have hl : ((List.range len).map f).length = len := by simp
  have hc : wayCells ((List.range len).map f) = (List.range len).flatMap F := by
    unfold wayCells
    rw [List.flatMap_map]
    refine flatMap_cong2 ?_
    intro i hi
    exact (hf i (List.mem_range.1 hi)).2.symm
  refine ⟨a, c, (List.range len).map f, by rw [hl], ?_, ?_⟩
  · intro y hy
    obtain ⟨i, hi, rfl⟩ := List.mem_map.1 hy
    exact (hf i (List.mem_range.1 hi)).1
  · rw [hl, hc]; exact h2

theorem cut_at {α : Type} (cs : List α) (off n : Nat) {xs : List α} (h : (cs.drop off).take n = xs) : cs.drop off = xs ++ cs.drop (off + n) := by
  rw [← h, ← List.drop_drop, List.take_append_drop]

theorem open_sig {H : Type} {enc : TypeId × Value → H} {w : World} {held : Bool} {fuel : Nat} {cs : List Value} {x : DataW H × List MemPlace} (h : DataW.trod enc Try.prog w 0 (fun _ => true) held fuel 66 cs = some x) :
    ∃ (s : Sig) (a : Option Addr) (c : Nat), cs = s.cells (.slice a s.way.length c) ∧ s.Fit ∧ s.key < 2 ^ 32 ∧ RowR w 32 (.slice a s.way.length c) s.way.length (wayCells s.way) := by
  obtain ⟨xs, n, _, _, hl, hn, hx⟩ := DataW.trod_struct Try.underlying66 h
  have hn3 : xs.length = 3 := hn
  rw [show Try.prog.cellsOf 66 = 1026 by kernel_rfl] at hl
  have g0 := hx 0 _ rfl
  have g1 := hx 1 _ rfl
  have g2 := hx 2 _ rfl
  rw [List.getElem?_eq_getElem (by omega)] at g0 g1 g2
  simp only [List.getElem_toArray, List.getElem_cons_succ, List.getElem_cons_zero] at g0 g1 g2
  rw [o_lsig.cells, kLSig_len] at g0
  rw [o_u32.cells] at g1
  rw [show Try.prog.cellsOf 64 = 1 by kernel_rfl] at g2
  obtain ⟨l, e0, hl1, hl2⟩ := likeW_lsig _ (o_lsig.opens _ _ _ _ _ _ _ _ g0)
  obtain ⟨k, e1, _, hk⟩ := DataW.trod_int Try.underlying26 g1
  obtain ⟨a, c, way, e2, hw, hrow⟩ := open_way g2
  obtain ⟨k', rfl, hk'⟩ := wf_u32 hk
  refine ⟨⟨l, k', way⟩, a, c, ?_, ⟨hl1, hl2, hw⟩, hk', hrow⟩
  have c0 := cut_at cs _ _ e0
  have c1 := cut_at cs _ _ e1
  have c2 := cut_at cs _ _ e2
  have c3 : cs.drop 1026 = [] := List.drop_eq_nil_of_le (by omega)
  simp only [List.length_cons, List.length_nil] at c1
  rw [List.drop_zero] at c0
  rw [c0, show 0 + 1024 = 1024 from rfl, c1, show 1024 + (0 + 1) = 1025 from rfl, c2, show 1025 + 1 = 1026 from rfl, c3]
  simp [Sig.cells]

end Go.Proofs.Ytldmkafobbemjaa
