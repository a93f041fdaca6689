/-
  Sums and a lamp's signature laid to bytes by the program.
  A ring's signature laid to bytes by the program.
  Regions with many orders: each set of operations that are done is proved once.
-/
import Derived.Test.YtldmkafobbemjaaB5
import Derived.Test.YtldmkafobbemjaaB2
import Derived.Test.YtldmkafobbemjaaA3
namespace Go.Proofs.Ytldmkafobbemjaa
set_option linter.unusedSimpArgs false
set_option linter.unusedVariables false
open Go Go.RowKit
set_option maxRecDepth 100000
set_option maxHeartbeats 2000000

/-- A slice's block is another than those of A, and stands in w. -/
def Far (w : World) (A : List Nat) (u : Value) : Prop := ∀ ad m c, u = .slice (some ad) m c → ad.block ∉ A ∧ ad.block < w.heap.size
theorem Far.st {w0 w : World} {A : List Nat} {L : List Ent} {u : Value} (h : Far w0 A u) (hS : St w0 A w L) (i : Nat) {x : Ent} (hi : L[i]? = some x) : Far w (keys [x]) u := by
  intro ad m c e
  obtain ⟨h1, h2⟩ := h ad m c e
  refine ⟨fun hk => ?_, Nat.lt_of_lt_of_le h2 hS.size⟩
  have hkL : ad.block ∈ keys L := by
    cases x with
    | none => simp [keys] at hk
    | some y =>
      obtain ⟨g, cs, T⟩ := y
      simp [keys] at hk
      exact mem_keys.2 ⟨cs, T, by rw [hk]; exact mem_getElem? hi⟩
  rcases hS.fresh _ hkL with h | h
  · exact h1 h
  · omega
theorem Far.not {w : World} {A : List Nat} {u : Value} (h : Far w A u) : ∀ ad m c, u = .slice (some ad) m c → ad.block ∉ A := fun ad m c e => (h ad m c e).1

theorem flatten_take_succ (l : List (List UInt8)) (k : Nat) (h : k < l.length) : (l.take (k + 1)).flatten = (l.take k).flatten ++ l[k] := by
  rw [List.take_succ_eq_append_getElem h, List.flatten_append]; simp
theorem flatten32 : ∀ (l : List (List UInt8)) (_ : ∀ d, d ∈ l → d.length = 32), l.flatten.length = 32 * l.length
  | [], _ => rfl
  | d :: l, h => by
    have h1 := h d (by simp)
    have h2 := flatten32 l (fun d hd => h d (by simp [hd]))
    simp only [List.flatten_cons, List.length_append, List.length_cons, h1, h2]; omega

theorem osum_ok (x : Ent) (v : Value) (l : List UInt8) (u : Value) (ds : List (List UInt8)) (w : World) (hb : Holds w x) (hv : RowV 5 1 v l.length (bs l) x)
    (hu : RowR w 32 u ds.length (wayCells ds)) (hd : ∀ ad m c, u = .slice (some ad) m c → ad.block ∉ keys [x]) (hn : ∀ d, d ∈ ds → d.length = 32)
    (hl : l.length ≤ 100000000) (hl2 : ds.length ≤ 1000) :
    Calls Try.prog 62 #[v, u] w (OPost w x (l ++ ds.flatten)) := by
  have hS := St.start w [x] (fun y hy => by simp at hy; subst hy; exact hb) (by cases x <;> simp [keys])
  obtain ⟨a1, c1, rfl⟩ := hu.isSl
  have Hu := Lib.hid hu
  have Hn := Lib.hid hn
  clear hu hn
  go_enter Try.func62, Try.ntmps62
  go_wp2_with fail
  go_loopw [0, 6, 9] (fun o _ i wr => ∃ (j : Nat) (x' : Ent), j ≤ ds.length ∧ i = .int .i64 j ∧ RowV 5 1 o (l ++ (ds.take j).flatten).length (bs (l ++ (ds.take j).flatten)) x' ∧ St w (keys [x]) wr [x']) (fun _ _ i _ => ds.length - (intOf i).toNat)
  case atStart => exact ⟨0, x, Nat.zero_le _, rfl, by simpa using hv, hS⟩
  case round =>
    clear hS
    obtain ⟨j, x', hj, rfl, hrow, hS⟩ := hrel
    obtain ⟨a0, c0, rfl⟩ := hrow.isSl
    by_cases hlt : j < ds.length
    · obtain ⟨g, off, rfl, hc⟩ := (Hu.out.st hS hd).cellsAt j hlt
      rw [wayCells_drop ds Hn.out j hlt] at hc
      have hlen : (l ++ (ds.take j).flatten).length ≤ 200000000 := by
        rw [List.length_append, flatten32 _ (fun d hd => Hn.out d (List.mem_of_mem_take hd)), List.length_take]; omega
      have hd32 := Hn.out _ (List.getElem_mem hlt)
      have Hd := Lib.hid (show (bs ds[j]).length = 32 by rw [bs_length, hd32])
      have Hstep := Lib.hid (show l ++ (ds.take (j + 1)).flatten = (l ++ (ds.take j).flatten) ++ ds[j] by rw [flatten_take_succ ds j hlt, List.append_assoc])
      have Hlen1 := Lib.hid (show ((l ++ (ds.take j).flatten) ++ ds[j]).length = (l ++ (ds.take j).flatten).length + 32 by rw [List.length_append, hd32])
      generalize ds[j] = d at *
      generalize l ++ (ds.take j).flatten = l2 at *
      have h63 : l2.length + 32 ≤ maxLen := by unfold maxLen; omega
      have hby : (l2.length + 32) * 1 ≤ 140737488355328 := by omega
      clear hd32
      go_wp2_with (first
        | ((with_reducible show wpList _ _ _ (Oper.mk _ (Op.load _ _) _ _ _ _ :: _) _ _); refine wpl rfl ?_; refine owp_loadR rfl rfl hc Hd.out ?_)
        | ((with_reducible show wpList _ _ _ (Oper.mk (some 6) (Op.alloc _) _ _ _ _ :: _) _ _); refine wpl rfl ?_; refine (owp_allocAt hS 6 rfl rfl ?_); clear hS; intro gd _ hS; simp only [List.cons_append, List.nil_append] at hS)
        | ((with_reducible show wpList _ _ _ (Oper.mk _ (Op.store _ _ _) _ _ _ _ :: _) _ _); refine wpl rfl ?_; refine (owp_storeW hS 1 rfl rfl rfl rfl (Hd.out) (by rfl) (bs_one _) ?_); clear hS; intro _ hS; try simp only [List.cons_append, List.nil_append, List.append_nil, List.set_cons_zero, List.set_cons_succ] at hS)
        | ((with_reducible show wpList _ _ _ (Oper.mk _ (Op.call (Call.mk (Callee.builtin Builtin.append) _ _)) _ _ _ _ :: _) _ _); refine wpl rfl ?_; refine owp_append2 hS 0 rfl rfl rfl hrow rfl (RowR.part (hS.get 1 rfl) 0 32 32 (bs d) (by rw [List.drop_zero, List.take_of_length_le (Nat.le_of_eq Hd.out)]) Hd.out (by omega)) (bs_one _) h63 hby ?_; clear hS hrow; intro v' x'' w2 hrow hS _; obtain ⟨a2, c2, rfl⟩ := hrow.isSl; try simp only [List.cons_append, List.nil_append, List.append_nil, List.set_cons_zero, List.set_cons_succ] at hS))
      refine ⟨⟨j + 1, x'', by omega, by simp, ?_, hS.pick [0] rfl (by decide)⟩, by simp [intOf]; omega⟩
      rw [Hstep.out, Hlen1.out, bs_append]
      exact hrow
    · have hjk : j = ds.length := by omega
      subst hjk
      rw [List.take_length] at hrow ⊢
      generalize hl2 : l ++ ds.flatten = l2 at *
      go_wp2_with fail
      go_ret
      exact ⟨_, x', rfl, hrow, hS⟩

/-- The pieces of a lamp's signature, as they lie: shown, other, shown, other .. -/
def lampTo (s : LSig) (j : Nat) : List UInt8 := (List.range j).flatMap (fun i => (s.shown.drop (i * 16)).take 16 ++ (s.other.drop (i * 16)).take 16)
def layLamp (s : LSig) : List UInt8 := lampTo s 32
theorem lampTo_succ (s : LSig) (j : Nat) : lampTo s (j + 1) = (lampTo s j ++ (s.shown.drop (j * 16)).take 16) ++ (s.other.drop (j * 16)).take 16 := by
  simp [lampTo, List.range_succ]
theorem lampTo_length (s : LSig) (h1 : s.shown.length = 512) (h2 : s.other.length = 512) : ∀ j, j ≤ 32 → (lampTo s j).length = 32 * j
  | 0, _ => rfl
  | j + 1, hj => by
    have ih := lampTo_length s h1 h2 j (by omega)
    rw [lampTo_succ]
    simp only [List.length_append, List.length_take, List.length_drop, ih, h1, h2]
    omega

theorem layLamp_ok (s : LSig) (h1 : s.shown.length = 512) (h2 : s.other.length = 512) (x : Ent) (v : Value) (l : List UInt8) (w : World) (hb : Holds w x) (hv : RowV 5 1 v l.length (bs l) x)
    (hl : l.length ≤ 100000000) :
    Calls Try.prog 61 #[.agg s.cells.toArray, v] w (OPost w x (l ++ layLamp s)) := by
  have hS := St.start w [x] (fun y hy => by simp at hy; subst hy; exact hb) (by cases x <;> simp [keys])
  have Hs := Lib.hid (fun (n : Nat) (hn : n + 16 ≤ 512) => show (s.cells.drop n).take 16 = bs ((s.shown.drop n).take 16) by
    show ((bs s.shown ++ bs s.other).drop n).take 16 = _
    rw [List.drop_append_of_le_length (by rw [bs_length]; omega), List.take_append_of_le_length (by rw [List.length_drop, bs_length]; omega), bs_drop, bs_take])
  have Ho := Lib.hid (fun (n : Nat) (hn : n + 16 ≤ 512) => show (s.cells.drop (512 + n)).take 16 = bs ((s.other.drop n).take 16) by
    show ((bs s.shown ++ bs s.other).drop (512 + n)).take 16 = _
    have e1 : (bs s.shown).drop (512 + n) = [] := List.drop_eq_nil_of_le (by rw [bs_length]; omega)
    rw [List.drop_append, e1, List.nil_append, bs_length, h1, show 512 + n - 512 = n by omega, bs_drop, bs_take])
  have Hlt := Lib.hid (lampTo_length s h1 h2)
  have H1 := Lib.hid h1
  have H2 := Lib.hid h2
  clear h1 h2
  generalize s.cells = cs at *
  obtain ⟨a0, c0, rfl⟩ := hv.isSl
  go_enter Try.func61, Try.ntmps61
  go_wp2_with (first
    | ((with_reducible show wpList _ _ _ (Oper.mk _ (Op.box _ _) _ _ _ _ :: _) _ _); refine wpl rfl ?_; refine owp_box hS rfl (vs := cs) rfl ?_; clear hS; intro gs _ hS; try simp only [List.cons_append, List.nil_append, List.append_nil, List.set_cons_zero, List.set_cons_succ] at hS))
  go_loopw [1, 5, 6] (fun o _ i wr => ∃ (j : Nat) (x' : Ent), j ≤ 32 ∧ i = .int .i64 j ∧ RowV 5 1 o (l ++ lampTo s j).length (bs (l ++ lampTo s j)) x' ∧ St w (keys [x]) wr [x', some (gs, cs, 36)]) (fun _ _ i _ => 32 - (intOf i).toNat)
  case atStart => exact ⟨0, x, Nat.zero_le _, rfl, by simpa [lampTo] using hv, hS⟩
  case round =>
    clear hS hv
    obtain ⟨j, x', hj, rfl, hrow, hS⟩ := hrel
    obtain ⟨a1, c1, rfl⟩ := hrow.isSl
    by_cases hlt : j < 32
    · have Hp := Lib.hid (Hs.out (j * 16) (by omega))
      have Hq := Lib.hid (Ho.out (j * 16) (by omega))
      have hlen : (l ++ lampTo s j).length ≤ 200000000 := by rw [List.length_append, Hlt.out j hj]; omega
      have hp16 : ((s.shown.drop (j * 16)).take 16).length = 16 := by rw [List.length_take, List.length_drop, H1.out]; omega
      have hq16 : ((s.other.drop (j * 16)).take 16).length = 16 := by rw [List.length_take, List.length_drop, H2.out]; omega
      have Hstep := Lib.hid (show l ++ lampTo s (j + 1) = ((l ++ lampTo s j) ++ (s.shown.drop (j * 16)).take 16) ++ (s.other.drop (j * 16)).take 16 by rw [lampTo_succ]; simp [List.append_assoc])
      generalize l ++ lampTo s j = l2 at *
      generalize (s.shown.drop (j * 16)).take 16 = p at *
      generalize (s.other.drop (j * 16)).take 16 = q at *
      have Hlp := Lib.hid (show (bs p).length = 16 by rw [bs_length, hp16])
      have Hlq := Lib.hid (show (bs q).length = 16 by rw [bs_length, hq16])
      have Hfin := Lib.hid (show (l2 ++ p ++ q).length = l2.length + 16 + 16 by rw [List.length_append, List.length_append, hp16, hq16])
      have h63 : l2.length + 16 ≤ maxLen := by unfold maxLen; omega
      have hby : (l2.length + 16) * 1 ≤ 140737488355328 := by omega
      have h63b : l2.length + 16 + 16 ≤ maxLen := by unfold maxLen; omega
      have hbyb : (l2.length + 16 + 16) * 1 ≤ 140737488355328 := by omega
      have hi1 : (0 : Int) ≤ j := by omega
      have hi2 : (j : Int) < 32 := by omega
      clear hp16 hq16
      go_wp2_with fail
      replace hS := hS.drew
      refine wp_region_held_drew (S := (fun _ => True)) (by kernel_rfl) trivial (fun hHeld => ?_)
      refine htake (i := 0) (v := (.slice a1 l2.length c1)) rfl (by kernel_rfl) (by kernel_rfl) (by kernel_rfl) (fun _ _ _ h => h) (Or.inl ⟨by rfl, by (intro w hSw; (try dsimp only at hSw); (try obtain hSw := hSw); go_simp; try with_reducible rfl)⟩) (by assumption) ?_; simp only [Act.put, List.setIfInBounds_toArray, List.set_cons_succ, List.set_cons_zero]
      refine htake (i := 1) (v := (.int .i64 j)) rfl (by kernel_rfl) (by kernel_rfl) (by kernel_rfl) (fun _ _ _ h => h) (Or.inl ⟨by rfl, by (intro w hSw; (try dsimp only at hSw); (try obtain hSw := hSw); go_simp; try with_reducible rfl)⟩) (by assumption) ?_; simp only [Act.put, List.setIfInBounds_toArray, List.set_cons_succ, List.set_cons_zero]
      refine htake (i := 2) (v := (.pointer (some ⟨gs, 0, none⟩))) rfl (by kernel_rfl) (by kernel_rfl) (by kernel_rfl) (fun _ _ _ h => h) (Or.inl ⟨by rfl, by (intro w hSw; (try dsimp only at hSw); (try obtain hSw := hSw); go_simp; try with_reducible rfl)⟩) (by assumption) ?_; simp only [Act.put, List.setIfInBounds_toArray, List.set_cons_succ, List.set_cons_zero]
      refine htake (i := 3) (v := (.pointer (some ⟨gs, j * 16, none⟩))) rfl (by kernel_rfl) (by kernel_rfl) (by kernel_rfl) (fun _ _ _ h => h) (Or.inl ⟨by rfl, by (intro w hSw; (try dsimp only at hSw); (try obtain hSw := hSw); go_simp; try with_reducible rfl)⟩) (by assumption) ?_; simp only [Act.put, List.setIfInBounds_toArray, List.set_cons_succ, List.set_cons_zero]
      refine htake (i := 4) (v := (.slice (some ⟨gs, j * 16, none⟩) 16 16)) rfl (by kernel_rfl) (by kernel_rfl) (by kernel_rfl) (fun _ _ _ h => h) (Or.inl ⟨by rfl, by (intro w hSw; (try dsimp only at hSw); (try obtain hSw := hSw); go_simp; try with_reducible rfl)⟩) (by assumption) ?_; simp only [Act.put, List.setIfInBounds_toArray, List.set_cons_succ, List.set_cons_zero]
      refine htake (i := 6) (v := (.int .i64 j)) rfl (by kernel_rfl) (by kernel_rfl) (by kernel_rfl) (fun _ _ _ h => h) (Or.inl ⟨by rfl, by (intro w hSw; (try dsimp only at hSw); (try obtain hSw := hSw); go_simp; try with_reducible rfl)⟩) (by assumption) ?_; simp only [Act.put, List.setIfInBounds_toArray, List.set_cons_succ, List.set_cons_zero]
      refine htake (i := 7) (v := (.pointer (some ⟨gs, 512, none⟩))) rfl (by kernel_rfl) (by kernel_rfl) (by kernel_rfl) (fun _ _ _ h => h) (Or.inl ⟨by rfl, by (intro w hSw; (try dsimp only at hSw); (try obtain hSw := hSw); go_simp; try with_reducible rfl)⟩) (by assumption) ?_; simp only [Act.put, List.setIfInBounds_toArray, List.set_cons_succ, List.set_cons_zero]
      refine htake (i := 8) (v := (.pointer (some ⟨gs, 512 + j * 16, none⟩))) rfl (by kernel_rfl) (by kernel_rfl) (by kernel_rfl) (fun _ _ _ h => h) (Or.inl ⟨by rfl, by (intro w hSw; (try dsimp only at hSw); (try obtain hSw := hSw); go_simp; try with_reducible rfl)⟩) (by assumption) ?_; simp only [Act.put, List.setIfInBounds_toArray, List.set_cons_succ, List.set_cons_zero]
      refine htake (i := 9) (v := (.slice (some ⟨gs, 512 + j * 16, none⟩) 16 16)) rfl (by kernel_rfl) (by kernel_rfl) (by kernel_rfl) (fun _ _ _ h => h) (Or.inl ⟨by rfl, by (intro w hSw; (try dsimp only at hSw); (try obtain hSw := hSw); go_simp; try with_reducible rfl)⟩) (by assumption) ?_; simp only [Act.put, List.setIfInBounds_toArray, List.set_cons_succ, List.set_cons_zero]
      refine wpAnyH_ready (rs := [5]) (by kernel_rfl) (by simp) ?_
      refine hcons rfl rfl (fun K hK => ?_) ?_
      · clear hHeld
        refine owp_append2 hS 0 rfl rfl rfl hrow rfl (RowR.part (hS.get 1 rfl) (j * 16) 16 16 (bs p) Hp.out Hlp.out (by omega)) (bs_one _) h63 hby ?_
        clear hS hrow
        intro v5 x5 _ hrow hS _
        obtain ⟨a5, c5, rfl⟩ := hrow.isSl
        try simp only [List.cons_append, List.nil_append, List.append_nil, List.set_cons_zero, List.set_cons_succ] at hS
        refine hK.out _ _ trivial (fun hHeld => ?_)
        clear hK K
        simp only [Act.put, List.setIfInBounds_toArray, List.set_cons_succ, List.set_cons_zero]
        refine wpAnyH_ready (rs := [10]) (by kernel_rfl) (by simp) ?_
        refine hcons rfl rfl (fun K hK => ?_) ?_
        · clear hHeld
          refine owp_append2 hS 0 rfl rfl rfl hrow rfl (RowR.part (hS.get 1 rfl) (512 + j * 16) 16 16 (bs q) Hq.out Hlq.out (by omega)) (bs_one _) h63b hbyb ?_
          clear hS hrow
          intro v6 x6 _ hrow hS _
          obtain ⟨a6, c6, rfl⟩ := hrow.isSl
          try simp only [List.cons_append, List.nil_append, List.append_nil, List.set_cons_zero, List.set_cons_succ] at hS
          refine hK.out _ _ trivial (fun hHeld => ?_)
          clear hK K
          simp only [Act.put, List.setIfInBounds_toArray, List.set_cons_succ, List.set_cons_zero]
          refine htake (i := 11) (v := (.slice a6 (l2.length + 16 + 16) c6)) rfl (by kernel_rfl) (by kernel_rfl) (by kernel_rfl) (fun _ _ _ h => h) (Or.inl ⟨by rfl, by (intro w hSw; (try dsimp only at hSw); (try obtain hSw := hSw); go_simp; try with_reducible rfl)⟩) (by assumption) ?_; simp only [Act.put, List.setIfInBounds_toArray, List.set_cons_succ, List.set_cons_zero]
          refine wpAnyH_done (by kernel_rfl) ?_ _
          clear hHeld
          go_wp2_with fail
          go_roundw
          case rel =>
            refine ⟨j + 1, x6, by omega, by go_num, ?_, hS⟩
            rw [Hstep.out, Hfin.out, bs_append, bs_append]
            exact hrow
          case measure => simp [intOf]; omega
        exact AllReadyH.nil
      exact AllReadyH.nil
    · have hjk : j = 32 := by omega
      subst hjk
      have Hlay := Lib.hid (show l ++ layLamp s = l ++ lampTo s 32 from rfl)
      generalize l ++ lampTo s 32 = l2 at *
      go_wp2_with fail
      go_ret
      refine ⟨_, x', rfl, ?_, hS.pick [0] rfl (by decide)⟩
      rw [Hlay.out]
      exact hrow

end Go.Proofs.Ytldmkafobbemjaa
namespace Go.Proofs.Ytldmkafobbemjaa
set_option linter.unusedSimpArgs false
set_option linter.unusedVariables false
open Go Go.RowKit
set_option maxRecDepth 100000
set_option maxHeartbeats 2000000

def laySig (s : Sig) : List UInt8 := ((enc 4 s.key ++ [UInt8.ofNat s.way.length]) ++ layLamp s.l) ++ s.way.flatten
theorem layLamp_length (s : LSig) (h1 : s.shown.length = 512) (h2 : s.other.length = 512) : (layLamp s).length = 1024 := lampTo_length s h1 h2 32 (by omega)

theorem laySig_ok (s : Sig) (hf : s.Fit) (wv : Value) (x : Ent) (v : Value) (l : List UInt8) (w : World) (hb : Holds w x) (hv : RowV 5 1 v l.length (bs l) x)
    (hw : RowR w 32 wv s.way.length (wayCells s.way)) (hd : Far w (keys [x]) wv) (hk : s.key < 2 ^ 32) (hw8 : s.way.length ≤ 255) (hl : l.length ≤ 50000000) :
    Calls Try.prog 33 #[.agg (s.cells wv).toArray, v] w (OPost w x (l ++ laySig s)) := by
  have hS := St.start w [x] (fun y hy => by simp at hy; subst hy; exact hb) (by cases x <;> simp [keys])
  obtain ⟨a0, c0, rfl⟩ := hv.isSl
  obtain ⟨a1, c1, rfl⟩ := hw.isSl
  have Hll := Lib.hid (LSig.len s.l hf.shown hf.other)
  have Hway := Lib.hid hf.way
  have Hw := Lib.hid hw
  have Hv := Lib.hid hv
  have Hp := Lib.hid (Sig.parts s Hll.out (.slice a1 s.way.length c1))
  have Hlamp := Lib.hid (layLamp_ok s.l hf.shown hf.other)
  have Hlaml := Lib.hid (layLamp_length s.l hf.shown hf.other)
  have H4 := Lib.hid (show ∀ n, n ∈ [s.key] → n < 2 ^ 32 by intro n hn; simp only [List.mem_singleton] at hn; subst hn; exact hk)
  have Hb := Lib.hid (B_small s.way.length (by omega))
  have hwi : IntKind.u8.wrap (s.way.length : Int) = s.way.length := by rw [IntKind.wrap_u8]; omega
  have hwm : (s.way.length : Int) % 256 = s.way.length := by omega
  have Hl1 := Lib.hid (show (l ++ enc 4 s.key).length = l.length + 4 by rw [List.length_append, enc_length])
  have Hl2 := Lib.hid (show (l ++ enc 4 s.key ++ [UInt8.ofNat s.way.length]).length = l.length + 5 by rw [List.length_append, List.length_append, enc_length]; rfl)
  have Hl3 := Lib.hid (show (l ++ enc 4 s.key ++ [UInt8.ofNat s.way.length] ++ layLamp s.l).length = l.length + 1029 by rw [List.length_append, Hl2.out, Hlaml.out])
  have Hfin := Lib.hid (show l ++ laySig s = l ++ enc 4 s.key ++ [UInt8.ofNat s.way.length] ++ layLamp s.l ++ s.way.flatten by simp [laySig, List.append_assoc])
  clear hf hw hv
  generalize s.cells (.slice a1 s.way.length c1) = cs at *
  go_enter Try.func33, Try.ntmps33
  go_upto_region 1 with (first
    | ((with_reducible show wpList _ _ _ (Oper.mk _ (Op.box _ _) _ _ _ _ :: _) _ _); refine wpl rfl ?_; refine owp_box hS rfl (vs := cs) rfl ?_; clear hS; intro gs _ hS; try simp only [List.cons_append, List.nil_append, List.append_nil, List.set_cons_zero, List.set_cons_succ] at hS))
  try simp only [Act.put, List.setIfInBounds_toArray, List.set_cons_succ, List.set_cons_zero]
  replace hS := hS.drew
  refine wp_region_held_drew (S := (fun w' => (w'.cell? ⟨gs, 1024, none⟩ = some (.int .u32 s.key) ∧ w'.cell? ⟨gs, 1025, none⟩ = some (.slice a1 s.way.length c1)) ∧ CellsAt w' ⟨gs, 0, none⟩ s.l.cells)) (by kernel_rfl) ⟨⟨(hS.get 1 rfl).cell 1024 Hp.out.2.1, (hS.get 1 rfl).cell 1025 Hp.out.2.2⟩, (hS.get 1 rfl).range 0 1024 Hp.out.1⟩ (fun hHeld => ?_)
  refine htake (i := 0) (v := (.pointer (some ⟨gs, 0, none⟩))) rfl (by kernel_rfl) (by kernel_rfl) (by kernel_rfl) (fun _ _ _ h => h) (Or.inl ⟨by rfl, by (intro w hSw; (try dsimp only at hSw); (try obtain ⟨⟨h1, h2⟩, _⟩ := hSw); go_simp; try with_reducible rfl)⟩) (by assumption) ?_; simp only [Act.put, List.setIfInBounds_toArray, List.set_cons_succ, List.set_cons_zero]
  refine htake (i := 1) (v := (.agg s.l.cells.toArray)) rfl (by kernel_rfl) (by kernel_rfl) (by kernel_rfl) (fun _ _ _ h => h) (Or.inl ⟨by rfl, yl_loadR rfl rfl Hll.out (fun _ h => h.2)⟩) (by assumption) ?_; simp only [Act.put, List.setIfInBounds_toArray, List.set_cons_succ, List.set_cons_zero]
  refine htake (i := 2) (v := (.slice a0 l.length c0)) rfl (by kernel_rfl) (by kernel_rfl) (by kernel_rfl) (fun _ _ _ h => h) (Or.inl ⟨by rfl, by (intro w hSw; (try dsimp only at hSw); (try obtain ⟨⟨h1, h2⟩, _⟩ := hSw); go_simp; try with_reducible rfl)⟩) (by assumption) ?_; simp only [Act.put, List.setIfInBounds_toArray, List.set_cons_succ, List.set_cons_zero]
  refine htake (i := 3) (v := (.pointer (some ⟨gs, 1024, none⟩))) rfl (by kernel_rfl) (by kernel_rfl) (by kernel_rfl) (fun _ _ _ h => h) (Or.inl ⟨by rfl, by (intro w hSw; (try dsimp only at hSw); (try obtain ⟨⟨h1, h2⟩, _⟩ := hSw); go_simp; try with_reducible rfl)⟩) (by assumption) ?_; simp only [Act.put, List.setIfInBounds_toArray, List.set_cons_succ, List.set_cons_zero]
  refine htake (i := 4) (v := (.int .u32 s.key)) rfl (by kernel_rfl) (by kernel_rfl) (by kernel_rfl) (fun _ _ _ h => h) (Or.inl ⟨by rfl, by (intro w hSw; (try dsimp only at hSw); (try obtain ⟨⟨h1, h2⟩, _⟩ := hSw); go_simp; try with_reducible rfl)⟩) (by assumption) ?_; simp only [Act.put, List.setIfInBounds_toArray, List.set_cons_succ, List.set_cons_zero]
  refine htake (i := 7) (v := (.pointer (some ⟨gs, 1025, none⟩))) rfl (by kernel_rfl) (by kernel_rfl) (by kernel_rfl) (fun _ _ _ h => h) (Or.inl ⟨by rfl, by (intro w hSw; (try dsimp only at hSw); (try obtain ⟨⟨h1, h2⟩, _⟩ := hSw); go_simp; try with_reducible rfl)⟩) (by assumption) ?_; simp only [Act.put, List.setIfInBounds_toArray, List.set_cons_succ, List.set_cons_zero]
  refine htake (i := 8) (v := (.slice a1 s.way.length c1)) rfl (by kernel_rfl) (by kernel_rfl) (by kernel_rfl) (fun _ _ _ h => h) (Or.inl ⟨by rfl, by (intro w hSw; (try dsimp only at hSw); (try obtain ⟨⟨h1, h2⟩, _⟩ := hSw); go_simp; try with_reducible rfl)⟩) (by assumption) ?_; simp only [Act.put, List.setIfInBounds_toArray, List.set_cons_succ, List.set_cons_zero]
  refine htake (i := 9) (v := (.int .i64 s.way.length)) rfl (by kernel_rfl) (by kernel_rfl) (by kernel_rfl) (fun _ _ _ h => h) (Or.inl ⟨by rfl, by (intro w hSw; (try dsimp only at hSw); (try obtain ⟨⟨h1, h2⟩, _⟩ := hSw); go_simp; try with_reducible rfl)⟩) (by assumption) ?_; simp only [Act.put, List.setIfInBounds_toArray, List.set_cons_succ, List.set_cons_zero]
  refine htake (i := 10) (v := (.int .u8 s.way.length)) rfl (by kernel_rfl) (by kernel_rfl) (by kernel_rfl) (fun _ _ _ h => h) (Or.inl ⟨by rfl, by (intro w hSw; (try dsimp only at hSw); (try obtain ⟨⟨h1, h2⟩, _⟩ := hSw); go_simp; try with_reducible rfl)⟩) (by assumption) ?_; simp only [Act.put, List.setIfInBounds_toArray, List.set_cons_succ, List.set_cons_zero]
  refine htake (i := 14) (v := (.pointer (some ⟨gs, 1025, none⟩))) rfl (by kernel_rfl) (by kernel_rfl) (by kernel_rfl) (fun _ _ _ h => h) (Or.inl ⟨by rfl, by (intro w hSw; (try dsimp only at hSw); (try obtain ⟨⟨h1, h2⟩, _⟩ := hSw); go_simp; try with_reducible rfl)⟩) (by assumption) ?_; simp only [Act.put, List.setIfInBounds_toArray, List.set_cons_succ, List.set_cons_zero]
  refine htake (i := 15) (v := (.slice a1 s.way.length c1)) rfl (by kernel_rfl) (by kernel_rfl) (by kernel_rfl) (fun _ _ _ h => h) (Or.inl ⟨by rfl, by (intro w hSw; (try dsimp only at hSw); (try obtain ⟨⟨h1, h2⟩, _⟩ := hSw); go_simp; try with_reducible rfl)⟩) (by assumption) ?_; simp only [Act.put, List.setIfInBounds_toArray, List.set_cons_succ, List.set_cons_zero]
  refine wpAnyH_ready (rs := [5, 11]) (by kernel_rfl) (by simp) ?_
  refine hcons rfl rfl (fun K hK => ?_) ?_
  · clear hHeld
    refine owp_bslice1 (vs := [.int .u32 _]) hS rfl rfl (by rfl) (by decide) ?_
    clear hS; intro gk _ hS; try simp only [List.cons_append, List.nil_append, List.append_nil, List.set_cons_zero, List.set_cons_succ] at hS
    refine hK.out _ _ ⟨⟨(hS.get 1 rfl).cell 1024 Hp.out.2.1, (hS.get 1 rfl).cell 1025 Hp.out.2.2⟩, (hS.get 1 rfl).range 0 1024 Hp.out.1⟩ (fun hHeld => ?_)
    clear hK K
    simp only [Act.put, List.setIfInBounds_toArray, List.set_cons_succ, List.set_cons_zero]
    refine wpAnyH_ready (rs := [6, 11]) (by kernel_rfl) (by simp) ?_
    refine hcons rfl rfl (fun K hK => ?_) ?_
    · clear hHeld
      have hcall := ofour_ok x (.slice a0 l.length c0) l (.slice (some ⟨gk, 0, none⟩) 1 1) [s.key] _ (hS.get 0 rfl) Hv.out ((RowV.lit 26 1 gk 1 [.int .u32 s.key] rfl (by decide)).read (hS.get 2 rfl)) (hS.apart 0 2 rfl rfl (by decide)) H4.out (by omega) (by simp)
      refine owp_call rfl (by kernel_rfl) (args := #[.slice a0 l.length c0, .slice (some ⟨gk, 0, none⟩) 1 1]) rfl hcall ?_
      clear hcall
      rintro e w5 ⟨v5, x5, rfl, hrow5, hc⟩
      rw [fours_one, Hl1.out] at hrow5
      replace hS := hS.call1 (N := []) 0 rfl hc
      try simp only [List.cons_append, List.nil_append, List.append_nil, List.set_cons_zero, List.set_cons_succ] at hS
      clear hc
      obtain ⟨a5, c5, rfl⟩ := hrow5.isSl
      refine ⟨_, rfl, ?_⟩
      refine hK.out _ _ ⟨⟨(hS.get 1 rfl).cell 1024 Hp.out.2.1, (hS.get 1 rfl).cell 1025 Hp.out.2.2⟩, (hS.get 1 rfl).range 0 1024 Hp.out.1⟩ (fun hHeld => ?_)
      clear hK K
      simp only [Act.put, List.setIfInBounds_toArray, List.set_cons_succ, List.set_cons_zero]
      refine wpAnyH_ready (rs := [11]) (by kernel_rfl) (by simp) ?_
      refine hcons rfl rfl (fun K hK => ?_) ?_
      · clear hHeld
        refine owp_bslice1 (vs := [.int .u8 _]) hS rfl rfl (by rfl) (by decide) ?_
        clear hS; intro gn _ hS; try simp only [List.cons_append, List.nil_append, List.append_nil, List.set_cons_zero, List.set_cons_succ] at hS
        refine hK.out _ _ ⟨⟨(hS.get 1 rfl).cell 1024 Hp.out.2.1, (hS.get 1 rfl).cell 1025 Hp.out.2.2⟩, (hS.get 1 rfl).range 0 1024 Hp.out.1⟩ (fun hHeld => ?_)
        clear hK K
        simp only [Act.put, List.setIfInBounds_toArray, List.set_cons_succ, List.set_cons_zero]
        refine wpAnyH_ready (rs := [12]) (by kernel_rfl) (by simp) ?_
        refine hcons rfl rfl (fun K hK => ?_) ?_
        · clear hHeld
          rw [← Hb.out] at hS
          have hcall := oone_ok x5 (.slice a5 (l.length + 4) c5) (l ++ enc 4 s.key) (.slice (some ⟨gn, 0, none⟩) 1 1) [UInt8.ofNat s.way.length] _ (hS.get 0 rfl) (by rw [Hl1.out]; exact hrow5) ((RowV.lit 5 1 gn 1 _ rfl (by decide)).read (hS.get 3 rfl)) (by rw [Hl1.out]; simp; omega)
          refine owp_call rfl (by kernel_rfl) (args := #[.slice a5 (l.length + 4) c5, .slice (some ⟨gn, 0, none⟩) 1 1]) rfl hcall ?_
          clear hcall
          rintro e w6 ⟨v6, x6, rfl, hrow6, hc⟩
          rw [Hl2.out] at hrow6
          replace hS := hS.call1 (N := []) 0 rfl hc
          try simp only [List.cons_append, List.nil_append, List.append_nil, List.set_cons_zero, List.set_cons_succ] at hS
          clear hc
          obtain ⟨a6, c6, rfl⟩ := hrow6.isSl
          refine ⟨_, rfl, ?_⟩
          refine hK.out _ _ ⟨⟨(hS.get 1 rfl).cell 1024 Hp.out.2.1, (hS.get 1 rfl).cell 1025 Hp.out.2.2⟩, (hS.get 1 rfl).range 0 1024 Hp.out.1⟩ (fun hHeld => ?_)
          clear hK K
          simp only [Act.put, List.setIfInBounds_toArray, List.set_cons_succ, List.set_cons_zero]
          refine wpAnyH_ready (rs := [13]) (by kernel_rfl) (by simp) ?_
          refine hcons rfl rfl (fun K hK => ?_) ?_
          · clear hHeld
            have hcall := Hlamp.out x6 (.slice a6 (l.length + 5) c6) (l ++ enc 4 s.key ++ [UInt8.ofNat s.way.length]) _ (hS.get 0 rfl) (by rw [Hl2.out]; exact hrow6) (by rw [Hl2.out]; omega)
            refine owp_call rfl (by kernel_rfl) (args := #[.agg s.l.cells.toArray, .slice a6 (l.length + 5) c6]) rfl hcall ?_
            clear hcall
            rintro e w7 ⟨v7, x7, rfl, hrow7, hc⟩
            rw [Hl3.out] at hrow7
            replace hS := hS.call1 (N := []) 0 rfl hc
            try simp only [List.cons_append, List.nil_append, List.append_nil, List.set_cons_zero, List.set_cons_succ] at hS
            clear hc
            obtain ⟨a7, c7, rfl⟩ := hrow7.isSl
            refine ⟨_, rfl, ?_⟩
            refine hK.out _ _ ⟨⟨(hS.get 1 rfl).cell 1024 Hp.out.2.1, (hS.get 1 rfl).cell 1025 Hp.out.2.2⟩, (hS.get 1 rfl).range 0 1024 Hp.out.1⟩ (fun hHeld => ?_)
            clear hK K
            simp only [Act.put, List.setIfInBounds_toArray, List.set_cons_succ, List.set_cons_zero]
            refine wpAnyH_ready (rs := [16]) (by kernel_rfl) (by simp) ?_
            refine hcons rfl rfl (fun K hK => ?_) ?_
            · clear hHeld
              have hcall := osum_ok x7 (.slice a7 (l.length + 1029) c7) (l ++ enc 4 s.key ++ [UInt8.ofNat s.way.length] ++ layLamp s.l) (.slice a1 s.way.length c1) s.way _ (hS.get 0 rfl) (by rw [Hl3.out]; exact hrow7) (Hw.out.st hS hd.not) (hd.st hS 0 rfl).not Hway.out (by rw [Hl3.out]; omega) (by omega)
              refine owp_call rfl (by kernel_rfl) (args := #[.slice a7 (l.length + 1029) c7, .slice a1 s.way.length c1]) rfl hcall ?_
              clear hcall
              rintro e w8 ⟨v8, x8, rfl, hrow8, hc⟩
              rw [← Hfin.out] at hrow8
              replace hS := hS.call1 (N := []) 0 rfl hc
              try simp only [List.cons_append, List.nil_append, List.append_nil, List.set_cons_zero, List.set_cons_succ] at hS
              clear hc
              obtain ⟨a8, c8, rfl⟩ := hrow8.isSl
              refine ⟨_, rfl, ?_⟩
              refine hK.out _ _ ⟨⟨(hS.get 1 rfl).cell 1024 Hp.out.2.1, (hS.get 1 rfl).cell 1025 Hp.out.2.2⟩, (hS.get 1 rfl).range 0 1024 Hp.out.1⟩ (fun hHeld => ?_)
              clear hK K
              simp only [Act.put, List.setIfInBounds_toArray, List.set_cons_succ, List.set_cons_zero]
              refine htake (i := 17) (v := (.slice a8 (l ++ laySig s).length c8)) rfl (by kernel_rfl) (by kernel_rfl) (by kernel_rfl) (fun _ _ _ h => h) (Or.inl ⟨by rfl, by (intro w hSw; (try dsimp only at hSw); (try obtain ⟨⟨h1, h2⟩, _⟩ := hSw); go_simp; try with_reducible rfl)⟩) (by assumption) ?_; simp only [Act.put, List.setIfInBounds_toArray, List.set_cons_succ, List.set_cons_zero]
              refine wpAnyH_done (by kernel_rfl) ?_ _
              clear hHeld
              go_wp2_with fail
              go_ret
              exact ⟨_, x8, rfl, hrow8, hS.pick [0] rfl (by decide)⟩
            exact AllReadyH.nil
          exact AllReadyH.nil
        exact AllReadyH.nil
      exact AllReadyH.nil
    refine hcons rfl rfl (fun K hK => ?_) ?_
    · clear hHeld
      refine owp_bslice1 (vs := [.int .u8 _]) hS rfl rfl (by rfl) (by decide) ?_
      clear hS; intro gn _ hS; try simp only [List.cons_append, List.nil_append, List.append_nil, List.set_cons_zero, List.set_cons_succ] at hS
      refine hK.out _ _ ⟨⟨(hS.get 1 rfl).cell 1024 Hp.out.2.1, (hS.get 1 rfl).cell 1025 Hp.out.2.2⟩, (hS.get 1 rfl).range 0 1024 Hp.out.1⟩ (fun hHeld => ?_)
      clear hK K
      simp only [Act.put, List.setIfInBounds_toArray, List.set_cons_succ, List.set_cons_zero]
      refine wpAnyH_ready (rs := [6]) (by kernel_rfl) (by simp) ?_
      refine hcons rfl rfl (fun K hK => ?_) ?_
      · clear hHeld
        have hcall := ofour_ok x (.slice a0 l.length c0) l (.slice (some ⟨gk, 0, none⟩) 1 1) [s.key] _ (hS.get 0 rfl) Hv.out ((RowV.lit 26 1 gk 1 [.int .u32 s.key] rfl (by decide)).read (hS.get 2 rfl)) (hS.apart 0 2 rfl rfl (by decide)) H4.out (by omega) (by simp)
        refine owp_call rfl (by kernel_rfl) (args := #[.slice a0 l.length c0, .slice (some ⟨gk, 0, none⟩) 1 1]) rfl hcall ?_
        clear hcall
        rintro e w5 ⟨v5, x5, rfl, hrow5, hc⟩
        rw [fours_one, Hl1.out] at hrow5
        replace hS := hS.call1 (N := []) 0 rfl hc
        try simp only [List.cons_append, List.nil_append, List.append_nil, List.set_cons_zero, List.set_cons_succ] at hS
        clear hc
        obtain ⟨a5, c5, rfl⟩ := hrow5.isSl
        refine ⟨_, rfl, ?_⟩
        refine hK.out _ _ ⟨⟨(hS.get 1 rfl).cell 1024 Hp.out.2.1, (hS.get 1 rfl).cell 1025 Hp.out.2.2⟩, (hS.get 1 rfl).range 0 1024 Hp.out.1⟩ (fun hHeld => ?_)
        clear hK K
        simp only [Act.put, List.setIfInBounds_toArray, List.set_cons_succ, List.set_cons_zero]
        refine wpAnyH_ready (rs := [12]) (by kernel_rfl) (by simp) ?_
        refine hcons rfl rfl (fun K hK => ?_) ?_
        · clear hHeld
          rw [← Hb.out] at hS
          have hcall := oone_ok x5 (.slice a5 (l.length + 4) c5) (l ++ enc 4 s.key) (.slice (some ⟨gn, 0, none⟩) 1 1) [UInt8.ofNat s.way.length] _ (hS.get 0 rfl) (by rw [Hl1.out]; exact hrow5) ((RowV.lit 5 1 gn 1 _ rfl (by decide)).read (hS.get 3 rfl)) (by rw [Hl1.out]; simp; omega)
          refine owp_call rfl (by kernel_rfl) (args := #[.slice a5 (l.length + 4) c5, .slice (some ⟨gn, 0, none⟩) 1 1]) rfl hcall ?_
          clear hcall
          rintro e w6 ⟨v6, x6, rfl, hrow6, hc⟩
          rw [Hl2.out] at hrow6
          replace hS := hS.call1 (N := []) 0 rfl hc
          try simp only [List.cons_append, List.nil_append, List.append_nil, List.set_cons_zero, List.set_cons_succ] at hS
          clear hc
          obtain ⟨a6, c6, rfl⟩ := hrow6.isSl
          refine ⟨_, rfl, ?_⟩
          refine hK.out _ _ ⟨⟨(hS.get 1 rfl).cell 1024 Hp.out.2.1, (hS.get 1 rfl).cell 1025 Hp.out.2.2⟩, (hS.get 1 rfl).range 0 1024 Hp.out.1⟩ (fun hHeld => ?_)
          clear hK K
          simp only [Act.put, List.setIfInBounds_toArray, List.set_cons_succ, List.set_cons_zero]
          refine wpAnyH_ready (rs := [13]) (by kernel_rfl) (by simp) ?_
          refine hcons rfl rfl (fun K hK => ?_) ?_
          · clear hHeld
            have hcall := Hlamp.out x6 (.slice a6 (l.length + 5) c6) (l ++ enc 4 s.key ++ [UInt8.ofNat s.way.length]) _ (hS.get 0 rfl) (by rw [Hl2.out]; exact hrow6) (by rw [Hl2.out]; omega)
            refine owp_call rfl (by kernel_rfl) (args := #[.agg s.l.cells.toArray, .slice a6 (l.length + 5) c6]) rfl hcall ?_
            clear hcall
            rintro e w7 ⟨v7, x7, rfl, hrow7, hc⟩
            rw [Hl3.out] at hrow7
            replace hS := hS.call1 (N := []) 0 rfl hc
            try simp only [List.cons_append, List.nil_append, List.append_nil, List.set_cons_zero, List.set_cons_succ] at hS
            clear hc
            obtain ⟨a7, c7, rfl⟩ := hrow7.isSl
            refine ⟨_, rfl, ?_⟩
            refine hK.out _ _ ⟨⟨(hS.get 1 rfl).cell 1024 Hp.out.2.1, (hS.get 1 rfl).cell 1025 Hp.out.2.2⟩, (hS.get 1 rfl).range 0 1024 Hp.out.1⟩ (fun hHeld => ?_)
            clear hK K
            simp only [Act.put, List.setIfInBounds_toArray, List.set_cons_succ, List.set_cons_zero]
            refine wpAnyH_ready (rs := [16]) (by kernel_rfl) (by simp) ?_
            refine hcons rfl rfl (fun K hK => ?_) ?_
            · clear hHeld
              have hcall := osum_ok x7 (.slice a7 (l.length + 1029) c7) (l ++ enc 4 s.key ++ [UInt8.ofNat s.way.length] ++ layLamp s.l) (.slice a1 s.way.length c1) s.way _ (hS.get 0 rfl) (by rw [Hl3.out]; exact hrow7) (Hw.out.st hS hd.not) (hd.st hS 0 rfl).not Hway.out (by rw [Hl3.out]; omega) (by omega)
              refine owp_call rfl (by kernel_rfl) (args := #[.slice a7 (l.length + 1029) c7, .slice a1 s.way.length c1]) rfl hcall ?_
              clear hcall
              rintro e w8 ⟨v8, x8, rfl, hrow8, hc⟩
              rw [← Hfin.out] at hrow8
              replace hS := hS.call1 (N := []) 0 rfl hc
              try simp only [List.cons_append, List.nil_append, List.append_nil, List.set_cons_zero, List.set_cons_succ] at hS
              clear hc
              obtain ⟨a8, c8, rfl⟩ := hrow8.isSl
              refine ⟨_, rfl, ?_⟩
              refine hK.out _ _ ⟨⟨(hS.get 1 rfl).cell 1024 Hp.out.2.1, (hS.get 1 rfl).cell 1025 Hp.out.2.2⟩, (hS.get 1 rfl).range 0 1024 Hp.out.1⟩ (fun hHeld => ?_)
              clear hK K
              simp only [Act.put, List.setIfInBounds_toArray, List.set_cons_succ, List.set_cons_zero]
              refine htake (i := 17) (v := (.slice a8 (l ++ laySig s).length c8)) rfl (by kernel_rfl) (by kernel_rfl) (by kernel_rfl) (fun _ _ _ h => h) (Or.inl ⟨by rfl, by (intro w hSw; (try dsimp only at hSw); (try obtain ⟨⟨h1, h2⟩, _⟩ := hSw); go_simp; try with_reducible rfl)⟩) (by assumption) ?_; simp only [Act.put, List.setIfInBounds_toArray, List.set_cons_succ, List.set_cons_zero]
              refine wpAnyH_done (by kernel_rfl) ?_ _
              clear hHeld
              go_wp2_with fail
              go_ret
              exact ⟨_, x8, rfl, hrow8, hS.pick [0] rfl (by decide)⟩
            exact AllReadyH.nil
          exact AllReadyH.nil
        exact AllReadyH.nil
      exact AllReadyH.nil
    exact AllReadyH.nil
  refine hcons rfl rfl (fun K hK => ?_) ?_
  · clear hHeld
    refine owp_bslice1 (vs := [.int .u8 _]) hS rfl rfl (by rfl) (by decide) ?_
    clear hS; intro gn _ hS; try simp only [List.cons_append, List.nil_append, List.append_nil, List.set_cons_zero, List.set_cons_succ] at hS
    refine hK.out _ _ ⟨⟨(hS.get 1 rfl).cell 1024 Hp.out.2.1, (hS.get 1 rfl).cell 1025 Hp.out.2.2⟩, (hS.get 1 rfl).range 0 1024 Hp.out.1⟩ (fun hHeld => ?_)
    clear hK K
    simp only [Act.put, List.setIfInBounds_toArray, List.set_cons_succ, List.set_cons_zero]
    refine wpAnyH_ready (rs := [5]) (by kernel_rfl) (by simp) ?_
    refine hcons rfl rfl (fun K hK => ?_) ?_
    · clear hHeld
      refine owp_bslice1 (vs := [.int .u32 _]) hS rfl rfl (by rfl) (by decide) ?_
      clear hS; intro gk _ hS; try simp only [List.cons_append, List.nil_append, List.append_nil, List.set_cons_zero, List.set_cons_succ] at hS
      refine hK.out _ _ ⟨⟨(hS.get 1 rfl).cell 1024 Hp.out.2.1, (hS.get 1 rfl).cell 1025 Hp.out.2.2⟩, (hS.get 1 rfl).range 0 1024 Hp.out.1⟩ (fun hHeld => ?_)
      clear hK K
      simp only [Act.put, List.setIfInBounds_toArray, List.set_cons_succ, List.set_cons_zero]
      refine wpAnyH_ready (rs := [6]) (by kernel_rfl) (by simp) ?_
      refine hcons rfl rfl (fun K hK => ?_) ?_
      · clear hHeld
        have hcall := ofour_ok x (.slice a0 l.length c0) l (.slice (some ⟨gk, 0, none⟩) 1 1) [s.key] _ (hS.get 0 rfl) Hv.out ((RowV.lit 26 1 gk 1 [.int .u32 s.key] rfl (by decide)).read (hS.get 3 rfl)) (hS.apart 0 3 rfl rfl (by decide)) H4.out (by omega) (by simp)
        refine owp_call rfl (by kernel_rfl) (args := #[.slice a0 l.length c0, .slice (some ⟨gk, 0, none⟩) 1 1]) rfl hcall ?_
        clear hcall
        rintro e w5 ⟨v5, x5, rfl, hrow5, hc⟩
        rw [fours_one, Hl1.out] at hrow5
        replace hS := hS.call1 (N := []) 0 rfl hc
        try simp only [List.cons_append, List.nil_append, List.append_nil, List.set_cons_zero, List.set_cons_succ] at hS
        clear hc
        obtain ⟨a5, c5, rfl⟩ := hrow5.isSl
        refine ⟨_, rfl, ?_⟩
        refine hK.out _ _ ⟨⟨(hS.get 1 rfl).cell 1024 Hp.out.2.1, (hS.get 1 rfl).cell 1025 Hp.out.2.2⟩, (hS.get 1 rfl).range 0 1024 Hp.out.1⟩ (fun hHeld => ?_)
        clear hK K
        simp only [Act.put, List.setIfInBounds_toArray, List.set_cons_succ, List.set_cons_zero]
        refine wpAnyH_ready (rs := [12]) (by kernel_rfl) (by simp) ?_
        refine hcons rfl rfl (fun K hK => ?_) ?_
        · clear hHeld
          rw [← Hb.out] at hS
          have hcall := oone_ok x5 (.slice a5 (l.length + 4) c5) (l ++ enc 4 s.key) (.slice (some ⟨gn, 0, none⟩) 1 1) [UInt8.ofNat s.way.length] _ (hS.get 0 rfl) (by rw [Hl1.out]; exact hrow5) ((RowV.lit 5 1 gn 1 _ rfl (by decide)).read (hS.get 2 rfl)) (by rw [Hl1.out]; simp; omega)
          refine owp_call rfl (by kernel_rfl) (args := #[.slice a5 (l.length + 4) c5, .slice (some ⟨gn, 0, none⟩) 1 1]) rfl hcall ?_
          clear hcall
          rintro e w6 ⟨v6, x6, rfl, hrow6, hc⟩
          rw [Hl2.out] at hrow6
          replace hS := hS.call1 (N := []) 0 rfl hc
          try simp only [List.cons_append, List.nil_append, List.append_nil, List.set_cons_zero, List.set_cons_succ] at hS
          clear hc
          obtain ⟨a6, c6, rfl⟩ := hrow6.isSl
          refine ⟨_, rfl, ?_⟩
          refine hK.out _ _ ⟨⟨(hS.get 1 rfl).cell 1024 Hp.out.2.1, (hS.get 1 rfl).cell 1025 Hp.out.2.2⟩, (hS.get 1 rfl).range 0 1024 Hp.out.1⟩ (fun hHeld => ?_)
          clear hK K
          simp only [Act.put, List.setIfInBounds_toArray, List.set_cons_succ, List.set_cons_zero]
          refine wpAnyH_ready (rs := [13]) (by kernel_rfl) (by simp) ?_
          refine hcons rfl rfl (fun K hK => ?_) ?_
          · clear hHeld
            have hcall := Hlamp.out x6 (.slice a6 (l.length + 5) c6) (l ++ enc 4 s.key ++ [UInt8.ofNat s.way.length]) _ (hS.get 0 rfl) (by rw [Hl2.out]; exact hrow6) (by rw [Hl2.out]; omega)
            refine owp_call rfl (by kernel_rfl) (args := #[.agg s.l.cells.toArray, .slice a6 (l.length + 5) c6]) rfl hcall ?_
            clear hcall
            rintro e w7 ⟨v7, x7, rfl, hrow7, hc⟩
            rw [Hl3.out] at hrow7
            replace hS := hS.call1 (N := []) 0 rfl hc
            try simp only [List.cons_append, List.nil_append, List.append_nil, List.set_cons_zero, List.set_cons_succ] at hS
            clear hc
            obtain ⟨a7, c7, rfl⟩ := hrow7.isSl
            refine ⟨_, rfl, ?_⟩
            refine hK.out _ _ ⟨⟨(hS.get 1 rfl).cell 1024 Hp.out.2.1, (hS.get 1 rfl).cell 1025 Hp.out.2.2⟩, (hS.get 1 rfl).range 0 1024 Hp.out.1⟩ (fun hHeld => ?_)
            clear hK K
            simp only [Act.put, List.setIfInBounds_toArray, List.set_cons_succ, List.set_cons_zero]
            refine wpAnyH_ready (rs := [16]) (by kernel_rfl) (by simp) ?_
            refine hcons rfl rfl (fun K hK => ?_) ?_
            · clear hHeld
              have hcall := osum_ok x7 (.slice a7 (l.length + 1029) c7) (l ++ enc 4 s.key ++ [UInt8.ofNat s.way.length] ++ layLamp s.l) (.slice a1 s.way.length c1) s.way _ (hS.get 0 rfl) (by rw [Hl3.out]; exact hrow7) (Hw.out.st hS hd.not) (hd.st hS 0 rfl).not Hway.out (by rw [Hl3.out]; omega) (by omega)
              refine owp_call rfl (by kernel_rfl) (args := #[.slice a7 (l.length + 1029) c7, .slice a1 s.way.length c1]) rfl hcall ?_
              clear hcall
              rintro e w8 ⟨v8, x8, rfl, hrow8, hc⟩
              rw [← Hfin.out] at hrow8
              replace hS := hS.call1 (N := []) 0 rfl hc
              try simp only [List.cons_append, List.nil_append, List.append_nil, List.set_cons_zero, List.set_cons_succ] at hS
              clear hc
              obtain ⟨a8, c8, rfl⟩ := hrow8.isSl
              refine ⟨_, rfl, ?_⟩
              refine hK.out _ _ ⟨⟨(hS.get 1 rfl).cell 1024 Hp.out.2.1, (hS.get 1 rfl).cell 1025 Hp.out.2.2⟩, (hS.get 1 rfl).range 0 1024 Hp.out.1⟩ (fun hHeld => ?_)
              clear hK K
              simp only [Act.put, List.setIfInBounds_toArray, List.set_cons_succ, List.set_cons_zero]
              refine htake (i := 17) (v := (.slice a8 (l ++ laySig s).length c8)) rfl (by kernel_rfl) (by kernel_rfl) (by kernel_rfl) (fun _ _ _ h => h) (Or.inl ⟨by rfl, by (intro w hSw; (try dsimp only at hSw); (try obtain ⟨⟨h1, h2⟩, _⟩ := hSw); go_simp; try with_reducible rfl)⟩) (by assumption) ?_; simp only [Act.put, List.setIfInBounds_toArray, List.set_cons_succ, List.set_cons_zero]
              refine wpAnyH_done (by kernel_rfl) ?_ _
              clear hHeld
              replace hS := hS.pick [0, 1, 3, 2] rfl (by decide)
              go_wp2_with fail
              go_ret
              exact ⟨_, x8, rfl, hrow8, hS.pick [0] rfl (by decide)⟩
            exact AllReadyH.nil
          exact AllReadyH.nil
        exact AllReadyH.nil
      exact AllReadyH.nil
    exact AllReadyH.nil
  exact AllReadyH.nil

end Go.Proofs.Ytldmkafobbemjaa
namespace Go.Proofs.Ytldmkafobbemjaa
set_option linter.unusedSimpArgs false
set_option linter.unusedVariables false
open Go Go.RowKit
set_option maxRecDepth 100000

theorem wpAnyH_listed {P : Program} {ops : Array Oper} {Q : Exit → Act → World → Prop} {md : Region.Mode} {S : World → Prop} {a : Act} {w : World} {fuel : Nat} {l l' : Array Bool} (h : l = l')
    (hw : wpAnyH P md ops Q S fuel l' a w) : wpAnyH P md ops Q S fuel l a w := by rw [h]; exact hw

/-- The operations of region n of a code. -/
def regionOf (n : Nat) : Code → Array Oper
  | .region k ops _ => if k = n then ops else #[]
  | .seq a b => if (regionOf n a).size = 0 then regionOf n b else regionOf n a
  | .cond _ a b => if (regionOf n a).size = 0 then regionOf n b else regionOf n a
  | .block _ a => regionOf n a
  | .loop a => regionOf n a
  | .scope a => regionOf n a
  | _ => #[]
theorem region_eq {P : Program} {ops ops' : Array Oper} {Q : Exit → Act → World → Prop} {a : Act} {w : World} {id : Nat} {b : Bool} (h : ops = ops')
    (hw : (Code.region id ops' b).wp P Q a w) : (Code.region id ops b).wp P Q a w := by rw [h]; exact hw

end Go.Proofs.Ytldmkafobbemjaa
