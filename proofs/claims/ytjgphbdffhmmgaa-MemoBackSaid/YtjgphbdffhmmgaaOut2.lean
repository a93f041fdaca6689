/-
  Numbers laid to bytes by the document.
-/
import Derived.Test.YtjgphbdffhmmgaaOut1
import Derived.Laws.MakeOwn
namespace Go.Proofs.Ytjgphbdffhmmgaa
set_option linter.unusedSimpArgs false
set_option linter.unusedVariables false
open Go Go.RowKit
set_option maxRecDepth 100000
set_option maxHeartbeats 2000000

section
variable {P : Program} {Q : Exit → Act → World → Prop} {K : Act → World → Prop} {a : Act} {w : World} {o : Oper}
variable {w0 : World} {A : List Nat} {L : List Ent} (hS : St w0 A w L)
include hS
theorem owp_make {T e : TypeId} {x : Operand} (ho : o.op = .makeSlice T x x) {bytes : Nat} [hT : SliceOK P T e 1 bytes] {z : Value} [hz : ZeroOK P e [z]]
    {n : Nat} (hx : a.eval x = .int .i64 n) (hb : bytes * n ≤ 281474976710656) (h63 : n ≤ 1000000)
    (hk : ∀ g w1, St w0 A w1 (L ++ [some (g, List.replicate n z, e)]) → K (a.put o.dst (.slice (some ⟨g, 0, none⟩) n n)) w1) : o.wp P a w K Q := by
  refine owp_val (w1 := w.alloc (.cells (List.replicate n z).toArray e)) (v := .slice (some ⟨w.heap.size, 0, none⟩) n n) ?_ (hk _ _ (hS.alloc _ e))
  obtain ⟨hu, i, z', hi, hzz, hsize, hbb, hc, _⟩ := hT
  obtain ⟨hz⟩ := hz
  simp only [hi, hzz, Option.bind_some, Option.map_some, Option.some.injEq] at hz
  have hr := run_make (P := P) w T e i z' hu hi hzz .i64 .i64 (n : Int) (n : Int) (by omega) (by omega) (by rw [hbb, ← Int.natCast_mul]; omega) (by omega)
  have hm : madeCells z'.cells ((n : Int).toNat * i.size) = (List.replicate n z).toArray := by
    rw [hz, hsize]
    apply Array.ext
    · simp [madeCells]
    · intro j h1 h2
      simp [madeCells, Nat.mod_one]
  rw [hm] at hr
  unfold execOp
  simp only [Int.toNat_natCast] at hr
  simp only [ho, hx, Sem.run_bind, Sem.run_pure, hr, Result.andThen_ok]
end

theorem enc_drop (k n m : Nat) (h : m < k) : (enc k n).drop m = UInt8.ofNat (n / 256 ^ (k - 1 - m)) :: (enc k n).drop (m + 1) := by
  rw [List.drop_eq_getElem_cons (by rw [enc_length]; exact h)]
  simp [enc, encTo]

theorem tmod_byte (q : Nat) : (q : Int).tmod 256 % 256 = ((q % 256 : Nat) : Int) := by
  rw [Int.tmod_eq_emod_of_nonneg (by omega)]
  omega

theorem rnum_ok' (u : Value) (l : List UInt8) (n k : Nat) (w : World) (hu : RowR w 1 u l.length (bs l))
    (hl : l.length ≤ 1000000000) (hn : n < 2 ^ 64) (hk : k ≤ 8) :
    Calls Try.prog 40 #[u, .int .u64 n, .int .i64 k] w (OPost w none (l ++ enc k n)) := by
  have hS := St.nil w
  obtain ⟨a0, c0, rfl⟩ := hu.isSl
  go_enter Try.func40, Try.ntmps40
  go_wp2_with (first | (with_reducible show wpList _ _ _ (Oper.mk _ (Op.makeSlice _ _ _) _ _ _ _ :: _) _ _; refine wpl rfl ?_; refine owp_make hS rfl rfl (by omega) (by omega) ?_; clear hS; intro gp w1 hS; try simp only [List.cons_append, List.nil_append, List.append_nil, List.set_cons_zero, List.set_cons_succ] at hS))
  go_loopw [1, 8] (fun q i wr => ∃ (j m : Nat), j + m = k ∧ i = .int .i64 ((m : Int) - 1) ∧ q = .int .u64 (n / 256 ^ j : Nat) ∧ St w [] wr [some (gp, List.replicate m (.int .u8 0) ++ bs ((enc k n).drop m), 5)]) (fun _ i _ => (intOf i + 1).toNat)
  case atStart => 
    refine ⟨0, k, by omega, rfl, by simp, ?_⟩
    have h : (enc k n).drop k = [] := List.drop_eq_nil_of_le (by rw [enc_length]; omega)
    rw [h]
    simpa [bs] using hS
  case round =>
    clear hS
    obtain ⟨j, m, hjm, rfl, rfl, hS⟩ := hrel
    by_cases hlt : 0 < m
    · obtain ⟨m', rfl⟩ : ∃ m', m = m' + 1 := ⟨m - 1, by omega⟩
      have h1 : ((m' + 1 : Nat) : Int) - 1 = m' := by omega
      rw [h1]
      have hmk : (m' : Int) < k := by omega
      have hlt2 : m' < (List.replicate (m' + 1) (Value.int .u8 0) ++ bs ((enc k n).drop (m' + 1))).length := by simp; omega
      have hset : (List.replicate (m' + 1) (Value.int .u8 0) ++ bs ((enc k n).drop (m' + 1))).set m' (.int .u8 (((n / 256 ^ j : Nat) : Int) % 256)) = List.replicate m' (.int .u8 0) ++ bs ((enc k n).drop m') := by
        rw [enc_drop k n m' (by omega), show k - 1 - m' = j by omega]
        simp only [bs, List.map_cons, B_ofNat]
        generalize n / 256 ^ j = q
        rw [List.replicate_succ', List.append_assoc, List.set_append_right _ _ (by simp)]
        simp
      have hq : n / 256 ^ (j + 1) = n / 256 ^ j / 256 := by rw [Nat.pow_succ, Nat.div_div_eq_div_mul]
      have hqb : n / 256 ^ j < 18446744073709551616 := Nat.lt_of_le_of_lt (Nat.div_le_self _ _) hn
      have Hset := Lib.hid hset
      have Hlt2 := Lib.hid hlt2
      have Hq := Lib.hid hq
      clear hset hlt2 hq
      generalize hq1 : n / 256 ^ (j + 1) = q1 at *
      generalize n / 256 ^ j = q at *
      generalize bs ((enc k n).drop (m' + 1)) = c1 at *
      go_wp2_with (first | ((with_reducible show wpList _ _ _ (Oper.mk _ (Op.store _ _ _) _ _ _ _ :: _) _ _); refine wpl rfl ?_; refine owp_store1 hS 0 rfl rfl rfl rfl rfl Hlt2.out Hset.out ?_; clear hS; intro _ hS; try simp only [List.cons_append, List.nil_append, List.append_nil, List.set_cons_zero, List.set_cons_succ] at hS))
      go_roundw
      case rel =>
        refine ⟨j + 1, m', by omega, rfl, ?_, hS⟩
        rw [hq1, Hq.out]
        simp
      case measure => simp [intOf]
    · have h0 : m = 0 := by omega
      subst h0
      have hjk : j = k := by omega
      subst hjk
      have hd : List.replicate 0 (Value.int .u8 0) ++ bs ((enc j n).drop 0) = bs (enc j n) := by simp
      rw [hd] at hS
      have h63 : 0 + l.length ≤ maxLen := by unfold maxLen; omega
      have hby : (0 + l.length) * 1 ≤ 140737488355328 := by omega
      have Hu := Lib.hid hu
      have He := Lib.hid (show (bs (enc j n)).length = j * 1 by rw [bs_length, enc_length, Nat.mul_one])
      clear hu hd
      go_wp2_with (first
        | ((with_reducible show wpList _ _ _ (Oper.mk _ (Op.buildSlice _ _ _) _ _ _ _ :: _) _ _); refine wpl rfl ?_; refine owp_bslice0 hS rfl ?_; clear hS; intro g1 w1 hS; try simp only [List.cons_append, List.nil_append, List.append_nil, List.set_cons_zero, List.set_cons_succ] at hS)
        | ((with_reducible show wpList _ _ _ (Oper.mk (some 27) (Op.call (Call.mk (Callee.builtin Builtin.append) _ _)) _ _ _ _ :: _) _ _); refine wpl rfl ?_; refine owp_append hS 1 rfl rfl rfl (RowV.lit 5 1 _ 0 [] rfl (Nat.zero_le _)) rfl (Hu.out.st0 hS) (bs_one _) h63 hby ?_; clear hS; intro v' x'' w2 hrow hS _; obtain ⟨a2, c2, rfl⟩ := hrow.isSl; simp only [Nat.zero_add, List.nil_append] at hrow; try simp only [List.cons_append, List.nil_append, List.append_nil, List.set_cons_zero, List.set_cons_succ] at hS)
        | ((with_reducible show wpList _ _ _ (Oper.mk (some 29) (Op.call (Call.mk (Callee.builtin Builtin.append) _ _)) _ _ _ _ :: _) _ _); refine wpl rfl ?_; refine owp_append hS 1 rfl rfl rfl hrow rfl ((RowV.lit 5 1 gp j (bs (enc j n)) He.out (by unfold maxLen; omega)).read (hS.get 0 rfl)) (bs_one _) (by unfold maxLen; omega) (by omega) ?_; clear hS hrow; intro v' x'' w2 hrow hS _; obtain ⟨a3, c3, rfl⟩ := hrow.isSl; try simp only [List.cons_append, List.nil_append, List.append_nil, List.set_cons_zero, List.set_cons_succ] at hS))
      go_ret
      refine ⟨_, x'', rfl, ?_, hS.pick [1] rfl (by decide)⟩
      rw [List.length_append, enc_length, bs_append]
      exact hrow

end Go.Proofs.Ytjgphbdffhmmgaa
