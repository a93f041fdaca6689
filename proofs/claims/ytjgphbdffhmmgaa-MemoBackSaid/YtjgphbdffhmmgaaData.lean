/-
  The plain data of the layers, and what is read off bytes: no program in sight.
-/
import Derived.Test.YtjgphbdffhmmgaaRows2
namespace Go.Proofs.Ytjgphbdffhmmgaa
set_option linter.unusedSimpArgs false
set_option linter.unusedVariables false
open Go Go.RowKit

def B (b : UInt8) : Value := .int .u8 b.toNat
def bs (l : List UInt8) : List Value := l.map B
theorem bs_length (l : List UInt8) : (bs l).length = l.length := by simp [bs]
theorem bs_append (l m : List UInt8) : bs (l ++ m) = bs l ++ bs m := by simp [bs]
theorem bs_take (l : List UInt8) (n : Nat) : (bs l).take n = bs (l.take n) := by simp [bs, List.map_take]
theorem bs_drop (l : List UInt8) (n : Nat) : (bs l).drop n = bs (l.drop n) := by simp [bs, List.map_drop]
theorem bs_one (l : List UInt8) : ∀ v, v ∈ bs l → v.oneCell' = true := by
  intro v hv
  simp [bs, B] at hv
  obtain ⟨x, _, rfl⟩ := hv
  rfl
theorem B_inj {x y : UInt8} (h : B x = B y) : x = y := by
  simp [B] at h
  exact UInt8.toNat_inj.1 (by omega)
theorem bs_inj {l m : List UInt8} (h : bs l = bs m) : l = m := by
  induction l generalizing m with
  | nil => cases m with
    | nil => rfl
    | cons y m => simp [bs] at h
  | cons x l ih => cases m with
    | nil => simp [bs] at h
    | cons y m =>
      simp only [bs, List.map_cons, List.cons.injEq] at h
      rw [B_inj h.1, ih h.2]

def u64 (n : Nat) : Value := .int .u64 n
def u32 (n : Nat) : Value := .int .u32 n
def i64 (n : Int) : Value := .int .i64 n
def zb (n : Nat) : List UInt8 := List.replicate n 0
theorem zb_length (n : Nat) : (zb n).length = n := by simp [zb]

structure Cond where
  id : Nat
  side : Int
  amount : Nat
  hash : List UInt8
  expiry : Nat
def Cond.cells (c : Cond) : List Value := [.int .u64 c.id, .int .i64 c.side, .int .u64 c.amount] ++ bs c.hash ++ [.int .u64 c.expiry]
def Cond.zero : Cond := ⟨0, 0, 0, zb 32, 0⟩
structure Oop where
  kind : Int
  amount : Nat
  cond : Cond
  id : Nat
def Oop.cells (o : Oop) : List Value := [.int .i64 o.kind, .int .u64 o.amount] ++ o.cond.cells ++ [.int .u64 o.id]
def Oop.zero : Oop := ⟨0, 0, Cond.zero, 0⟩
structure LSig where
  shown : List UInt8
  other : List UInt8
def LSig.cells (l : LSig) : List Value := bs l.shown ++ bs l.other
def LSig.zero : LSig := ⟨zb 512, zb 512⟩
structure Sig where
  l : LSig
  key : Nat
  way : List (List UInt8)
def Sig.cells (s : Sig) (v : Value) : List Value := s.l.cells ++ [.int .u32 s.key, v]
def Sig.zero : Sig := ⟨LSig.zero, 0, []⟩
def wayCells (l : List (List UInt8)) : List Value := l.flatMap bs
structure Hop where
  channel : Nat
  amount : Nat
  id : Nat
def Hop.cells (h : Hop) : List Value := [.int .u32 h.channel, .int .u64 h.amount, .int .u64 h.id]
def hopCells (l : List Hop) : List Value := l.flatMap Hop.cells
structure Memo where
  kind : Int
  channel : Nat
  round : Nat
  op : Oop
  trail : List Hop
  sig : Sig
def Memo.cells (m : Memo) (tv wv : Value) : List Value := [.int .i64 m.kind, .int .u32 m.channel, .int .u64 m.round] ++ m.op.cells ++ [tv] ++ m.sig.cells wv
def Memo.zero : Memo := ⟨0, 0, 0, Oop.zero, [], Sig.zero⟩

/-! ### What is taken off bytes -/
structure PS where
  rest : List UInt8
  bad : Int
def be (l : List UInt8) : Nat := l.foldl (fun n b => n * 256 + b.toNat) 0
def PS.cut (n : Nat) (s : PS) : List UInt8 × PS :=
  if s.bad ≠ 0 then ([], s) else if s.rest.length < n then ([], ⟨[], 9⟩) else (s.rest.take n, ⟨s.rest.drop n, s.bad⟩)
def PS.num (n : Nat) (s : PS) : Nat × PS := (be (s.cut n).1, (s.cut n).2)
def pad (n : Nat) (l : List UInt8) : List UInt8 := l ++ List.replicate (n - l.length) 0
def PS.sum (s : PS) : List UInt8 × PS := (pad 32 (s.cut 32).1, (s.cut 32).2)
def PS.fail (e : Int) (s : PS) : PS := if s.bad = 0 ∧ e ≠ 0 then ⟨[], e⟩ else s
def PS.many (most : Nat) (s : PS) : Nat × PS := if most < (s.num 1).1 then (0, (s.num 1).2.fail 8) else s.num 1
def PS.fin (s : PS) : PS := if 0 < s.rest.length then s.fail 10 else s

def times {α : Type} (f : PS → α × PS) : Nat → PS → List α × PS
  | 0, s => ([], s)
  | n + 1, s => ((times f n s).1 ++ [(f (times f n s).2).1], (f (times f n s).2).2)
theorem times_zero {α : Type} (f : PS → α × PS) (s : PS) : times f 0 s = ([], s) := rfl
theorem times_succ {α : Type} (f : PS → α × PS) (n : Nat) (s : PS) : times f (n + 1) s = ((times f n s).1 ++ [(f (times f n s).2).1], (f (times f n s).2).2) := rfl
attribute [irreducible] times

def takeCond (s : PS) : Cond × PS :=
  let id := s.num 8
  let side := id.2.num 1
  let amount := side.2.num 8
  let hash := amount.2.sum
  let expiry := hash.2.num 8
  (⟨id.1, side.1, amount.1, hash.1, expiry.1⟩, if 1 < side.1 then expiry.2.fail 10 else expiry.2)

def takeOp (s : PS) : Oop × PS :=
  let kind := s.num 1
  let amount := kind.2.num 8
  let id := amount.2.num 8
  let cond := takeCond id.2
  (if cond.2.bad ≠ 0 then Oop.zero else ⟨kind.1, amount.1, cond.1, id.1⟩, cond.2)

def takeHop (s : PS) : Hop × PS :=
  let channel := s.num 4
  let amount := channel.2.num 8
  let id := amount.2.num 8
  (⟨channel.1, amount.1, id.1⟩, id.2)

def takeTrail (s : PS) : List Hop × PS :=
  let n := s.many 7
  let l := times takeHop n.1 n.2
  (if l.2.bad ≠ 0 then [] else l.1, l.2)

def takeLamp (s : PS) : LSig × PS :=
  let l := times PS.sum 32 s
  (⟨l.1.flatMap (·.take 16), l.1.flatMap (·.drop 16)⟩, l.2)

def takeSig (s : PS) : Sig × PS :=
  let key := s.num 4
  let n := key.2.many 8
  let l := takeLamp n.2
  let way := times PS.sum n.1 l.2
  (if way.2.bad ≠ 0 then Sig.zero else ⟨l.1, key.1, way.1⟩, way.2)

def Cond.eqz (c : Cond) : Bool := c.id == 0 && c.side == 0 && c.amount == 0 && c.hash == zb 32 && c.expiry == 0
def Oop.eqz (o : Oop) : Bool := o.kind == 0 && o.amount == 0 && o.cond.eqz && o.id == 0
def Memo.bare (m : Memo) : Bool := m.op.eqz && m.trail.length == 0
def Memo.unsigned (m : Memo) : Bool := m.sig.key == 0 && m.sig.way.length == 0 && (m.sig.l.shown == zb 512 && m.sig.l.other == zb 512)
def Memo.right (m : Memo) : Bool :=
  if m.kind = 0 then m.bare && m.unsigned && m.round == 0
  else if m.kind = 1 then decide (0 ≤ m.op.kind) && decide (m.op.kind ≤ 5) && decide (m.trail.length ≤ 7) && decide (m.sig.way.length ≤ 8) && (m.op.cond.side == 0 || m.op.cond.side == 1)
  else if m.kind = 2 then m.bare && decide (m.sig.way.length ≤ 8)
  else false

def readBody (kind : Nat) (channel : Nat) (s : PS) : Memo × PS :=
  if kind = 0 then (⟨kind, channel, 0, Oop.zero, [], Sig.zero⟩, s)
  else if kind = 1 then
    let round := s.num 8
    let op := takeOp round.2
    let trail := takeTrail op.2
    let sig := takeSig trail.2
    (⟨kind, channel, round.1, op.1, trail.1, sig.1⟩, sig.2)
  else if kind = 2 then
    let round := s.num 8
    let sig := takeSig round.2
    (⟨kind, channel, round.1, Oop.zero, [], sig.1⟩, sig.2)
  else (⟨kind, channel, 0, Oop.zero, [], Sig.zero⟩, s.fail 10)

/-- The memo that bytes are, and the error; where there is one, the memo is nothing. -/
def readMemo (l : List UInt8) : Memo × Int :=
  let kind := (PS.mk l 0).num 1
  let channel := kind.2.num 4
  let m := readBody kind.1 channel.1 channel.2
  let s := if m.2.bad = 0 ∧ m.1.right = false then m.2.fail 10 else m.2
  if s.fin.bad ≠ 0 then (Memo.zero, s.fin.bad) else (m.1, 0)

end Go.Proofs.Ytjgphbdffhmmgaa
