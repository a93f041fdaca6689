/-
  What the program's bytes-laying methods do: numbers.
  Numbers laid to bytes by the document.
  A payment's way laid to bytes by the program.
  A payment's way laid to bytes by the document.
  A memo's bytes, as the program lays them: an Ask's.
  Bytes as strings; the law's example.
-/
import Derived.Test.YtldmkafobbemjaaA3
import Derived.Deep.RegionHeld
import Derived.Laws.Shifts
import Derived.Laws.MakeOwn
import Derived.Test.YtldmkafobbemjaaA5
import Derived.Laws.IdiomStrings
namespace Go.Proofs.Ytldmkafobbemjaa
set_option linter.unusedSimpArgs false
set_option linter.unusedVariables false
open Go Go.RowKit
set_option maxRecDepth 100000
set_option maxHeartbeats 2000000

/-- The first j of a number's k bytes, the highest first. -/
def encTo (k n j : Nat) : List UInt8 := (List.range j).map (fun i => UInt8.ofNat (n / 256 ^ (k - 1 - i)))
def enc (k n : Nat) : List UInt8 := encTo k n k
theorem encTo_length (k n j : Nat) : (encTo k n j).length = j := by simp [encTo]
theorem enc_length (k n : Nat) : (enc k n).length = k := encTo_length k n k
theorem encTo_zero (k n : Nat) : encTo k n 0 = [] := rfl
theorem encTo_succ (k n j : Nat) : encTo k n (j + 1) = encTo k n j ++ [UInt8.ofNat (n / 256 ^ (k - 1 - j))] := by
  simp [encTo, List.range_succ]
theorem B_ofNat (m : Nat) : B (UInt8.ofNat m) = .int .u8 ((m % 256 : Nat) : Int) := by
  simp [B]
theorem pow_256 (i : Nat) : 2 ^ (8 * i) = 256 ^ i := by rw [show (256 : Nat) = 2 ^ 8 from rfl, Nat.pow_mul]

theorem shr_byte (n i : Nat) : bs [UInt8.ofNat (n / 256 ^ i)] = [.int .u8 ((n : Int) / 2 ^ (8 * i) % 256)] := by
  simp only [bs, List.map_cons, List.map_nil, B_ofNat, ← pow_256]
  push_cast
  rfl

def OPost (w : World) (x : Ent) (l' : List UInt8) (e : Ending) (w' : World) : Prop :=
  ∃ v' x', e = .returned v' ∧ RowV 5 1 v' l'.length (bs l') x' ∧ St w (keys [x]) w' [x']

theorem onum_ok (x : Ent) (v : Value) (l : List UInt8) (n k : Nat) (w : World) (hb : Holds w x) (hv : RowV 5 1 v l.length (bs l) x)
    (hl : l.length ≤ 1000000000) (hn : n < 2 ^ 64) (hk : k ≤ 8) :
    Calls Try.prog 73 #[v, .int .u64 n, .int .i64 k] w (OPost w x (l ++ enc k n)) := by
  have hS := St.start w [x] (fun y hy => by simp at hy; subst hy; exact hb) (by cases x <;> simp [keys])
  go_enter Try.func73, Try.ntmps73
  go_wp2_with fail
  go_loopw [0, 7] (fun o i wr => ∃ (j : Nat) (x' : Ent), j ≤ k ∧ i = .int .i64 ((k : Int) - 1 - j) ∧ RowV 5 1 o (l.length + j) (bs (l ++ encTo k n j)) x' ∧ St w (keys [x]) wr [x']) (fun _ i _ => (intOf i + 1).toNat)
  case atStart => exact ⟨0, x, Nat.zero_le _, by simp, by simpa [encTo_zero] using hv, hS⟩
  case round =>
    clear hS
    obtain ⟨j, x', hj, rfl, hrow, hS⟩ := hrel
    obtain ⟨a0, c0, rfl⟩ := hrow.isSl
    by_cases hlt : j < k
    · have h1 : (0 : Int) ≤ (k : Int) - 1 - j := by omega
      have h63 : (l.length + j) + 1 ≤ maxLen := by unfold maxLen; omega
      have hby : ((l.length + j) + 1) * 1 ≤ 140737488355328 := by omega
      have h2 : 8 * ((k : Int) - 1 - j) ≤ 64 := by omega
      have h3 : 0 ≤ 8 * ((k : Int) - 1 - j) := by omega
      go_wp2_with (first
        | ((with_reducible show wpList _ _ _ (Oper.mk _ (Op.buildSlice _ _ _) _ _ _ _ :: _) _ _); refine wpl rfl ?_; refine owp_bslice1 (vs := [.int .u8 _]) hS rfl rfl (by rfl) (by decide) ?_; clear hS; intro g1 w1 hS; try simp only [List.cons_append, List.nil_append, List.append_nil, List.set_cons_zero, List.set_cons_succ] at hS)
        | ((with_reducible show wpList _ _ _ (Oper.mk _ (Op.call (Call.mk (Callee.builtin Builtin.append) _ _)) _ _ _ _ :: _) _ _); refine wpl rfl ?_; refine owp_append hS 0 rfl rfl rfl hrow rfl ((RowV.lit 5 1 _ 1 _ rfl (by decide)).read (hS.get 1 rfl)) (by intro x hx; simp at hx; subst hx; rfl) h63 hby ?_; clear hS hrow; intro v' x'' w2 hrow hS _; try simp only [List.cons_append, List.nil_append, List.append_nil, List.set_cons_zero, List.set_cons_succ] at hS))
      refine ⟨⟨j + 1, x'', by omega, by simp; omega, ?_, hS.pick [0] rfl (by decide)⟩, by simp [intOf]; omega⟩
      rw [encTo_succ, ← List.append_assoc, bs_append, shr_byte]
      exact hrow
    · have hjk : j = k := by omega
      subst hjk
      have h1 : (j : Int) - 1 - j = -1 := by omega
      rw [h1]
      go_wp2_with fail
      go_ret
      exact ⟨_, x', rfl, by rw [List.length_append, enc_length]; exact hrow, hS⟩


theorem RowR.cells1 {w : World} {a : Option Addr} {m c : Nat} {xs : List Value} (h : RowR w 1 (.slice a m c) m xs) :
    ∀ k x, xs[k]? = some x → ∃ g off, a = some ⟨g, off, none⟩ ∧ w.cell? ⟨g, off + k, none⟩ = some x := by
  intro k x hk
  rcases h.2 with ⟨e, h0⟩ | ⟨ad, cap, e, hc, hs, hcells⟩
  · have h1 := h.1
    subst h0
    have h2 : xs = [] := List.eq_nil_of_length_eq_zero (by simpa using h1)
    subst h2
    simp at hk
  · obtain ⟨g, off, spot⟩ := ad
    simp only [Value.slice.injEq] at e
    simp only at hs
    have hk1 := (List.getElem?_eq_some_iff.1 hk).1
    have h1 := h.1
    replace hs := hs.resolve_left (by omega)
    subst hs
    have := hcells k x hk
    rw [add_zero] at this
    exact ⟨g, off, e.1, this⟩

theorem append_types {P : Program} {T T2 e e2 : TypeId} {size bytes size2 bytes2 : Nat} [hT : SliceOK P T e size bytes] [hT2 : SliceOK P T2 e2 size2 bytes2] (ty : TypeId) (v u : Value) (w : World) :
    (Builtin.append_ #[T, T2] ty #[v, u]).run P w = (Builtin.append_ #[T, T] ty #[v, u]).run P w := by
  obtain ⟨hund, _⟩ := hT
  obtain ⟨hund2, _⟩ := hT2
  unfold Builtin.append_
  cases v <;> simp [run_underlying hund, run_underlying hund2]

section
variable {P : Program} {Q : Exit → Act → World → Prop} {K : Act → World → Prop} {a : Act} {w : World} {o : Oper}
variable {w0 : World} {A : List Nat} {L : List Ent} (hS : St w0 A w L)
include hS
/-- append of a slice of another slice type. -/
theorem owp_append2 (i : Nat) {T T2 e e2 : TypeId} {s y : Operand} (ho : o.op = .call { callee := .builtin .append, args := #[s, y], argTypes := #[T, T2] }) {size bytes size2 bytes2 : Nat} [hT : SliceOK P T e size bytes] [hT2 : SliceOK P T2 e2 size2 bytes2]
    {x : Ent} (hi : L[i]? = some x) {v : Value} {n : Nat} {xs : List Value} (hs : a.eval s = v) (hv : RowV e size v n xs x)
    {u : Value} {m : Nat} {news : List Value} (hy : a.eval y = u) (hu : RowR w size u m news) (h1 : ∀ v, v ∈ news → v.oneCell' = true)
    (h63 : n + m ≤ maxLen) (hby : (n + m) * bytes ≤ 140737488355328)
    (hk : ∀ v' x' w1, RowV e size v' (n + m) (xs ++ news) x' → St w0 A w1 (L.set i x') → (m ≠ 0 ∨ v ≠ .slice none 0 0 → v' ≠ .slice none 0 0) → K (a.put o.dst v') w1) : o.wp P a w K Q := by
  obtain ⟨v', x', w1, hr, hv', hst, hnil, _⟩ := run_append_st hS (hT := hT) o.type i hi hv hu h1 h63 hby
  refine owp_val (v := v') (w1 := w1) ?_ (hk _ _ _ hv' hst hnil)
  rw [← append_types (hT2 := hT2)] at hr
  unfold execOp
  simp only [ho, resolve, invoke, builtin, Sem.run_bind, Sem.run_pure, Result.andThen_ok, List.map_toArray, List.map_cons, List.map_nil, hs, hy, hr]
end

theorem oone_ok (x : Ent) (v : Value) (l : List UInt8) (u : Value) (m : List UInt8) (w : World) (hb : Holds w x) (hv : RowV 5 1 v l.length (bs l) x)
    (hu : RowR w 1 u m.length (bs m)) (hl : l.length + m.length ≤ 1000000000) :
    Calls Try.prog 53 #[v, u] w (OPost w x (l ++ m)) := by
  have hS := St.start w [x] (fun y hy => by simp at hy; subst hy; exact hb) (by cases x <;> simp [keys])
  have h63 : l.length + m.length ≤ maxLen := by unfold maxLen; omega
  have hby : (l.length + m.length) * 1 ≤ 140737488355328 := by omega
  obtain ⟨a0, c0, rfl⟩ := hv.isSl
  obtain ⟨a1, c1, rfl⟩ := hu.isSl
  go_enter Try.func53, Try.ntmps53
  go_wp2_with (first | ((with_reducible show wpList _ _ _ (Oper.mk _ (Op.call (Call.mk (Callee.builtin Builtin.append) _ _)) _ _ _ _ :: _) _ _); refine wpl rfl ?_; refine owp_append2 hS 0 rfl rfl rfl hv rfl hu (bs_one _) h63 hby ?_; clear hS hv; intro v' x'' w2 hrow hS _; obtain ⟨a2, c2, rfl⟩ := hrow.isSl; try simp only [List.cons_append, List.nil_append, List.append_nil, List.set_cons_zero, List.set_cons_succ] at hS))
  go_ret
  refine ⟨_, x'', rfl, ?_, hS⟩
  rw [List.length_append, bs_append]
  exact hrow

def fours (l : List Nat) : List UInt8 := l.flatMap (enc 4)
def eights (l : List Nat) : List UInt8 := l.flatMap (enc 8)
theorem fours_length (l : List Nat) : (fours l).length = 4 * l.length := by
  induction l with
  | nil => rfl
  | cons n l ih => simp only [fours, List.flatMap_cons, List.length_append, enc_length, List.length_cons] at *; omega
theorem eights_length (l : List Nat) : (eights l).length = 8 * l.length := by
  induction l with
  | nil => rfl
  | cons n l ih => simp only [eights, List.flatMap_cons, List.length_append, enc_length, List.length_cons] at *; omega
theorem fours_succ (l : List Nat) (k : Nat) (h : k < l.length) : fours (l.take (k + 1)) = fours (l.take k) ++ enc 4 l[k] := by
  rw [fours, List.take_succ_eq_append_getElem h, List.flatMap_append]; simp [fours]
theorem eights_succ (l : List Nat) (k : Nat) (h : k < l.length) : eights (l.take (k + 1)) = eights (l.take k) ++ enc 8 l[k] := by
  rw [eights, List.take_succ_eq_append_getElem h, List.flatMap_append]; simp [eights]

theorem ofour_ok (x : Ent) (v : Value) (l : List UInt8) (u : Value) (ns : List Nat) (w : World) (hb : Holds w x) (hv : RowV 5 1 v l.length (bs l) x)
    (hu : RowR w 1 u ns.length (ns.map (fun n : Nat => Value.int .u32 n))) (hd : ∀ ad m c, u = .slice (some ad) m c → ad.block ∉ keys [x]) (hn : ∀ n, n ∈ ns → n < 2 ^ 32)
    (hl : l.length ≤ 100000000) (hl2 : ns.length ≤ 1000) :
    Calls Try.prog 60 #[v, u] w (OPost w x (l ++ fours ns)) := by
  have hS := St.start w [x] (fun y hy => by simp at hy; subst hy; exact hb) (by cases x <;> simp [keys])
  obtain ⟨a1, c1, rfl⟩ := hu.isSl
  have Hu := Lib.hid hu
  have Hn := Lib.hid hn
  clear hu hn
  go_enter Try.func60, Try.ntmps60
  go_wp2_with fail
  go_loopw [0, 6, 9] (fun o _ i wr => ∃ (j : Nat) (x' : Ent), j ≤ ns.length ∧ i = .int .i64 j ∧ RowV 5 1 o (l ++ fours (ns.take j)).length (bs (l ++ fours (ns.take j))) x' ∧ St w (keys [x]) wr [x']) (fun _ _ i _ => ns.length - (intOf i).toNat)
  case atStart => exact ⟨0, x, Nat.zero_le _, rfl, by simpa [fours] using hv, hS⟩
  case round =>
    clear hS
    obtain ⟨j, x', hj, rfl, hrow, hS⟩ := hrel
    obtain ⟨a0, c0, rfl⟩ := hrow.isSl
    by_cases hlt : j < ns.length
    · obtain ⟨g, off, rfl, hc⟩ := (Hu.out.st hS hd).cells1 j (.int .u32 ns[j]) (by simp [hlt])
      have hlen : (l ++ fours (ns.take j)).length ≤ 1000000000 := by
        rw [List.length_append, fours_length, List.length_take]; omega
      have hn4 : ns[j] < 4294967296 := Hn.out _ (List.getElem_mem hlt)
      have hnj : ns[j] < 2 ^ 64 := Nat.lt_of_lt_of_le (Hn.out _ (List.getElem_mem hlt)) (by decide)
      have hns := Lib.hid (show l ++ fours (ns.take (j + 1)) = (l ++ fours (ns.take j)) ++ enc 4 ns[j] by rw [fours_succ ns j hlt, List.append_assoc])
      have Hc := Lib.hid (fun w' h => onum_ok x' _ _ ns[j] 4 w' h hrow hlen hnj (by decide))
      clear hrow hlen hnj
      generalize ns[j] = n at *
      generalize l ++ fours (ns.take j) = l1 at *
      generalize l1.length = m1 at *
      go_wp2_with fail
      refine (Hc.out _ (hS.get 0 rfl)).mono ?_
      rintro e w2 ⟨v', x'', rfl, hrow, hc⟩
      replace hS := hS.call1 (N := []) 0 rfl hc
      try simp only [List.cons_append, List.nil_append, List.append_nil, List.set_cons_zero, List.set_cons_succ] at hS
      clear hc
      go_wp2_with fail
      go_roundw
      case rel =>
        refine ⟨j + 1, x'', by omega, by go_num, ?_, hS⟩
        rw [hns.out]
        exact hrow
      case measure => simp [intOf]; omega
    · have hjk : j = ns.length := by omega
      subst hjk
      rw [List.take_length] at hrow ⊢
      go_wp2_with fail
      go_ret
      exact ⟨_, x', rfl, hrow, hS⟩

theorem oeight_ok (x : Ent) (v : Value) (l : List UInt8) (u : Value) (ns : List Nat) (w : World) (hb : Holds w x) (hv : RowV 5 1 v l.length (bs l) x)
    (hu : RowR w 1 u ns.length (ns.map (fun n : Nat => Value.int .u64 n))) (hd : ∀ ad m c, u = .slice (some ad) m c → ad.block ∉ keys [x]) (hn : ∀ n, n ∈ ns → n < 2 ^ 64)
    (hl : l.length ≤ 100000000) (hl2 : ns.length ≤ 1000) :
    Calls Try.prog 54 #[v, u] w (OPost w x (l ++ eights ns)) := by
  have hS := St.start w [x] (fun y hy => by simp at hy; subst hy; exact hb) (by cases x <;> simp [keys])
  obtain ⟨a1, c1, rfl⟩ := hu.isSl
  have Hu := Lib.hid hu
  have Hn := Lib.hid hn
  clear hu hn
  go_enter Try.func54, Try.ntmps54
  go_wp2_with fail
  go_loopw [0, 6, 9] (fun o _ i wr => ∃ (j : Nat) (x' : Ent), j ≤ ns.length ∧ i = .int .i64 j ∧ RowV 5 1 o (l ++ eights (ns.take j)).length (bs (l ++ eights (ns.take j))) x' ∧ St w (keys [x]) wr [x']) (fun _ _ i _ => ns.length - (intOf i).toNat)
  case atStart => exact ⟨0, x, Nat.zero_le _, rfl, by simpa [eights] using hv, hS⟩
  case round =>
    clear hS
    obtain ⟨j, x', hj, rfl, hrow, hS⟩ := hrel
    obtain ⟨a0, c0, rfl⟩ := hrow.isSl
    by_cases hlt : j < ns.length
    · obtain ⟨g, off, rfl, hc⟩ := (Hu.out.st hS hd).cells1 j (.int .u64 ns[j]) (by simp [hlt])
      have hlen : (l ++ eights (ns.take j)).length ≤ 1000000000 := by
        rw [List.length_append, eights_length, List.length_take]; omega
      have hnj : ns[j] < 2 ^ 64 := Nat.lt_of_lt_of_le (Hn.out _ (List.getElem_mem hlt)) (by decide)
      have hns := Lib.hid (show l ++ eights (ns.take (j + 1)) = (l ++ eights (ns.take j)) ++ enc 8 ns[j] by rw [eights_succ ns j hlt, List.append_assoc])
      have Hc := Lib.hid (fun w' h => onum_ok x' _ _ ns[j] 8 w' h hrow hlen hnj (by decide))
      clear hrow hlen hnj
      generalize ns[j] = n at *
      generalize l ++ eights (ns.take j) = l1 at *
      generalize l1.length = m1 at *
      go_wp2_with fail
      refine (Hc.out _ (hS.get 0 rfl)).mono ?_
      rintro e w2 ⟨v', x'', rfl, hrow, hc⟩
      replace hS := hS.call1 (N := []) 0 rfl hc
      try simp only [List.cons_append, List.nil_append, List.append_nil, List.set_cons_zero, List.set_cons_succ] at hS
      clear hc
      go_wp2_with fail
      go_roundw
      case rel =>
        refine ⟨j + 1, x'', by omega, by go_num, ?_, hS⟩
        rw [hns.out]
        exact hrow
      case measure => simp [intOf]; omega
    · have hjk : j = ns.length := by omega
      subst hjk
      rw [List.take_length] at hrow ⊢
      go_wp2_with fail
      go_ret
      exact ⟨_, x', rfl, hrow, hS⟩


end Go.Proofs.Ytldmkafobbemjaa
namespace Go.Proofs.Ytldmkafobbemjaa
set_option linter.unusedSimpArgs false
set_option linter.unusedVariables false
open Go Go.RowKit
set_option maxRecDepth 100000
set_option maxHeartbeats 2000000

section
variable {P : Program} {Q : Exit → Act → World → Prop} {K : Act → World → Prop} {a : Act} {w : World} {o : Oper}
variable {w0 : World} {A : List Nat} {L : List Ent} (hS : St w0 A w L)
include hS
theorem owp_make {T e : TypeId} {x : Operand} (ho : o.op = .makeSlice T x x) {bytes : Nat} [hT : SliceOK P T e 1 bytes] {z : Value} [hz : ZeroOK P e [z]]
    {n : Nat} (hx : a.eval x = .int .i64 n) (hb : bytes * n ≤ 281474976710656) (h63 : n ≤ 1000000)
    (hk : ∀ g w1, St w0 A w1 (L ++ [some (g, List.replicate n z, e)]) → K (a.put o.dst (.slice (some ⟨g, 0, none⟩) n n)) w1) : o.wp P a w K Q := by
  refine owp_val (w1 := w.alloc (.cells (List.replicate n z).toArray e)) (v := .slice (some ⟨w.heap.size, 0, none⟩) n n) ?_ (hk _ _ (hS.alloc _ e))
  obtain ⟨hu, i, z', hi, hzz, hsize, hbb, hc, _⟩ := hT
  obtain ⟨hz⟩ := hz
  simp only [hi, hzz, Option.bind_some, Option.map_some, Option.some.injEq] at hz
  have hr := run_make (P := P) w T e i z' hu hi hzz .i64 .i64 (n : Int) (n : Int) (by omega) (by omega) (by rw [hbb, ← Int.natCast_mul]; omega) (by omega)
  have hm : madeCells z'.cells ((n : Int).toNat * i.size) = (List.replicate n z).toArray := by
    rw [hz, hsize]
    apply Array.ext
    · simp [madeCells]
    · intro j h1 h2
      simp [madeCells, Nat.mod_one]
  rw [hm] at hr
  unfold execOp
  simp only [Int.toNat_natCast] at hr
  simp only [ho, hx, Sem.run_bind, Sem.run_pure, hr, Result.andThen_ok]
end

theorem enc_drop (k n m : Nat) (h : m < k) : (enc k n).drop m = UInt8.ofNat (n / 256 ^ (k - 1 - m)) :: (enc k n).drop (m + 1) := by
  rw [List.drop_eq_getElem_cons (by rw [enc_length]; exact h)]
  simp [enc, encTo]

theorem tmod_byte (q : Nat) : (q : Int).tmod 256 % 256 = ((q % 256 : Nat) : Int) := by
  rw [Int.tmod_eq_emod_of_nonneg (by omega)]
  omega

end Go.Proofs.Ytldmkafobbemjaa
namespace Go.Proofs.Ytldmkafobbemjaa
set_option linter.unusedSimpArgs false
set_option linter.unusedVariables false
open Go Go.RowKit
set_option maxRecDepth 100000
set_option maxHeartbeats 2000000

def layHop (h : Hop) : List UInt8 := enc 4 h.channel ++ (enc 8 h.amount ++ enc 8 h.id)
def layTrail (l : List Hop) : List UInt8 := UInt8.ofNat l.length :: l.flatMap layHop
def Hop.Ok (h : Hop) : Prop := h.channel < 2 ^ 32 ∧ h.amount < 2 ^ 64 ∧ h.id < 2 ^ 64
theorem layHop_length (h : Hop) : (layHop h).length = 20 := by simp [layHop, enc_length]
theorem layHops_length (l : List Hop) : (l.flatMap layHop).length = 20 * l.length := by
  induction l with
  | nil => rfl
  | cons n l ih => simp only [List.flatMap_cons, List.length_append, layHop_length, List.length_cons] at *; omega
theorem layHops_succ (l : List Hop) (k : Nat) (h : k < l.length) : (l.take (k + 1)).flatMap layHop = (l.take k).flatMap layHop ++ layHop l[k] := by
  rw [List.take_succ_eq_append_getElem h, List.flatMap_append]; simp
theorem eights_two (a b : Nat) : eights [a, b] = enc 8 a ++ enc 8 b := by simp [eights]
theorem fours_one (a : Nat) : fours [a] = enc 4 a := by simp [fours]

theorem RowR.cellsAt {w : World} {size : Nat} {a : Option Addr} {m c : Nat} {xs : List Value} (h : RowR w size (.slice a m c) m xs) (k : Nat) (hk : k < m) :
    ∃ g off, a = some ⟨g, off, none⟩ ∧ CellsAt w ⟨g, off + k * size, none⟩ ((xs.drop (k * size)).take size) := by
  rcases h.2 with ⟨e, h0⟩ | ⟨ad, cap, e, hc, hs, hcells⟩
  · omega
  · obtain ⟨g, off, spot⟩ := ad
    simp only [Value.slice.injEq] at e
    simp only at hs
    replace hs := hs.resolve_left (by omega)
    subst hs
    refine ⟨g, off, e.1, ?_⟩
    intro j v hj
    rw [List.getElem?_take] at hj
    split at hj
    · rw [List.getElem?_drop] at hj
      have := hcells _ v hj
      rw [add_zero] at this
      rw [add_zero, Nat.add_assoc]
      exact this
    · cases hj

theorem hopCells_drop (l : List Hop) : ∀ (k : Nat) (h : k < l.length), ((hopCells l).drop (k * 3)).take 3 = l[k].cells := by
  induction l with
  | nil => intro k h; simp at h
  | cons x l ih =>
    intro k h
    cases k with
    | zero => simp [hopCells, Hop.cells]
    | succ k =>
      have h2 : k < l.length := by simpa using h
      have h3 : hopCells (x :: l) = x.cells ++ hopCells l := by simp [hopCells]
      have h4 : x.cells.length = 3 := rfl
      rw [h3, List.drop_append, List.drop_eq_nil_of_le (by omega), List.nil_append, show (k + 1) * 3 - x.cells.length = k * 3 by omega, ih k h2]
      simp

theorem B_small (n : Nat) (h : n < 256) : bs [UInt8.ofNat n] = [.int .u8 n] := by
  simp only [bs, List.map_cons, List.map_nil, B_ofNat, Nat.mod_eq_of_lt h]

end Go.Proofs.Ytldmkafobbemjaa
namespace Go.Proofs.Ytldmkafobbemjaa
set_option linter.unusedSimpArgs false
set_option linter.unusedVariables false
open Go Go.RowKit
set_option maxRecDepth 100000
set_option maxHeartbeats 2000000

theorem CellsAt.at {w : World} {g off : Nat} {vs : List Value} (h : CellsAt w ⟨g, off, none⟩ vs) (j : Nat) {v : Value} (hv : vs[j]? = some v) : w.cell? ⟨g, off + j, none⟩ = some v := by
  have := h j v hv
  rwa [add_zero] at this

theorem RowR.cellsAll {w0 : World} {size : Nat} {a : Option Addr} {m c : Nat} {xs : List Value} (h : RowR w0 size (.slice a m c) m xs) (k : Nat) (hk : k < m) :
    ∃ g off, a = some ⟨g, off, none⟩ ∧ ∀ w L, St w0 [] w L → CellsAt w ⟨g, off + k * size, none⟩ ((xs.drop (k * size)).take size) := by
  obtain ⟨g, off, rfl, _⟩ := h.cellsAt k hk
  refine ⟨g, off, rfl, fun w L hS => ?_⟩
  obtain ⟨g', off', e, h2⟩ := (h.st0 hS).cellsAt k hk
  simp only [Option.some.injEq, Addr.mk.injEq] at e
  obtain ⟨rfl, rfl, _⟩ := e
  exact h2

end Go.Proofs.Ytldmkafobbemjaa
namespace Go.Proofs.Ytldmkafobbemjaa
set_option linter.unusedSimpArgs false
set_option linter.unusedVariables false
open Go Go.RowKit
set_option maxRecDepth 100000
set_option maxHeartbeats 2000000

def layHead (m : Memo) : List UInt8 := [UInt8.ofNat m.kind.toNat] ++ enc 4 m.channel
theorem layHead_length (m : Memo) : (layHead m).length = 5 := by simp [layHead, enc_length]

def BytesPost (w : World) (l : List UInt8) (e : Ending) (w' : World) : Prop :=
  ∃ v x, e = .returned (.tuple #[v, .int .i64 0]) ∧ RowV 5 1 v l.length (bs l) x ∧ St w [] w' [x]


end Go.Proofs.Ytldmkafobbemjaa
namespace Go.Proofs.Ytldmkafobbemjaa
set_option linter.unusedSimpArgs false
set_option linter.unusedVariables false
open Go Go.RowKit
set_option maxRecDepth 100000
set_option maxHeartbeats 2000000

theorem run_string {P : Program} {src dst e : TypeId} (hs : P.underlying src = some (.slice e)) (he : P.underlying e = some (.int .u8)) (hd : P.underlying dst = some .string)
    {w : World} {u : Value} {l : List UInt8} (hu : RowR w 1 u l.length (bs l)) : (convert src dst u).run P w = .ok (.string ⟨l.toArray⟩) w := by
  rcases hu.2 with ⟨rfl, h0⟩ | ⟨ad, cap, rfl, hc, hsp, hcells⟩
  · have hl : l = [] := List.eq_nil_of_length_eq_zero h0
    subst hl
    rw [run_convert_bytes_string w src dst e none 0 0 hs he hd]
    simp [Conv.bytesToString]
    rfl
  · refine run_convert_bytes_back w src dst e ad cap l hs he hd (fun j hj => ?_)
    exact hcells j _ (by simp [bs, hj, B])

theorem owp_string {P : Program} {Q : Exit → Act → World → Prop} {K : Act → World → Prop} {a : Act} {w : World} {o : Oper} {src dst e : TypeId} {x : Operand} (ho : o.op = .convert src dst x)
    (hs : P.underlying src = some (.slice e)) (he : P.underlying e = some (.int .u8)) (hd : P.underlying dst = some .string)
    {u : Value} (hx : a.eval x = u) {l : List UInt8} (hu : RowR w 1 u l.length (bs l)) (hk : K (a.put o.dst (.string ⟨l.toArray⟩)) w) : o.wp P a w K Q := by
  refine owp_val (w1 := w) (v := .string ⟨l.toArray⟩) ?_ hk
  unfold execOp
  simp only [ho, hx, run_string hs he hd hu, Sem.run_bind, Sem.run_pure, Result.andThen_ok]

end Go.Proofs.Ytldmkafobbemjaa
