/-
  Sums and a lamp's signature laid to bytes by the program.
-/
import Derived.Test.YtjgphbdffhmmgaaTo2
namespace Go.Proofs.Ytjgphbdffhmmgaa
set_option linter.unusedSimpArgs false
set_option linter.unusedVariables false
open Go Go.RowKit
set_option maxRecDepth 100000
set_option maxHeartbeats 2000000

/-- A slice's block is another than those of A, and stands in w. -/
def Far (w : World) (A : List Nat) (u : Value) : Prop := ∀ ad m c, u = .slice (some ad) m c → ad.block ∉ A ∧ ad.block < w.heap.size
theorem Far.st {w0 w : World} {A : List Nat} {L : List Ent} {u : Value} (h : Far w0 A u) (hS : St w0 A w L) (i : Nat) {x : Ent} (hi : L[i]? = some x) : Far w (keys [x]) u := by
  intro ad m c e
  obtain ⟨h1, h2⟩ := h ad m c e
  refine ⟨fun hk => ?_, Nat.lt_of_lt_of_le h2 hS.size⟩
  have hkL : ad.block ∈ keys L := by
    cases x with
    | none => simp [keys] at hk
    | some y =>
      obtain ⟨g, cs, T⟩ := y
      simp [keys] at hk
      exact mem_keys.2 ⟨cs, T, by rw [hk]; exact mem_getElem? hi⟩
  rcases hS.fresh _ hkL with h | h
  · exact h1 h
  · omega
theorem Far.not {w : World} {A : List Nat} {u : Value} (h : Far w A u) : ∀ ad m c, u = .slice (some ad) m c → ad.block ∉ A := fun ad m c e => (h ad m c e).1

theorem flatten_take_succ (l : List (List UInt8)) (k : Nat) (h : k < l.length) : (l.take (k + 1)).flatten = (l.take k).flatten ++ l[k] := by
  rw [List.take_succ_eq_append_getElem h, List.flatten_append]; simp
theorem flatten32 : ∀ (l : List (List UInt8)) (_ : ∀ d, d ∈ l → d.length = 32), l.flatten.length = 32 * l.length
  | [], _ => rfl
  | d :: l, h => by
    have h1 := h d (by simp)
    have h2 := flatten32 l (fun d hd => h d (by simp [hd]))
    simp only [List.flatten_cons, List.length_append, List.length_cons, h1, h2]; omega

theorem osum_ok (x : Ent) (v : Value) (l : List UInt8) (u : Value) (ds : List (List UInt8)) (w : World) (hb : Holds w x) (hv : RowV 5 1 v l.length (bs l) x)
    (hu : RowR w 32 u ds.length (wayCells ds)) (hd : ∀ ad m c, u = .slice (some ad) m c → ad.block ∉ keys [x]) (hn : ∀ d, d ∈ ds → d.length = 32)
    (hl : l.length ≤ 100000000) (hl2 : ds.length ≤ 1000) :
    Calls Try.prog 60 #[v, u] w (OPost w x (l ++ ds.flatten)) := by
  have hS := St.start w [x] (fun y hy => by simp at hy; subst hy; exact hb) (by cases x <;> simp [keys])
  obtain ⟨a1, c1, rfl⟩ := hu.isSl
  have Hu := Lib.hid hu
  have Hn := Lib.hid hn
  clear hu hn
  go_enter Try.func60, Try.ntmps60
  go_wp2_with fail
  go_loopw [0, 6, 9] (fun o _ i wr => ∃ (j : Nat) (x' : Ent), j ≤ ds.length ∧ i = .int .i64 j ∧ RowV 5 1 o (l ++ (ds.take j).flatten).length (bs (l ++ (ds.take j).flatten)) x' ∧ St w (keys [x]) wr [x']) (fun _ _ i _ => ds.length - (intOf i).toNat)
  case atStart => exact ⟨0, x, Nat.zero_le _, rfl, by simpa using hv, hS⟩
  case round =>
    clear hS
    obtain ⟨j, x', hj, rfl, hrow, hS⟩ := hrel
    obtain ⟨a0, c0, rfl⟩ := hrow.isSl
    by_cases hlt : j < ds.length
    · obtain ⟨g, off, rfl, hc⟩ := (Hu.out.st hS hd).cellsAt j hlt
      rw [wayCells_drop ds Hn.out j hlt] at hc
      have hlen : (l ++ (ds.take j).flatten).length ≤ 200000000 := by
        rw [List.length_append, flatten32 _ (fun d hd => Hn.out d (List.mem_of_mem_take hd)), List.length_take]; omega
      have hd32 := Hn.out _ (List.getElem_mem hlt)
      have Hd := Lib.hid (show (bs ds[j]).length = 32 by rw [bs_length, hd32])
      have Hstep := Lib.hid (show l ++ (ds.take (j + 1)).flatten = (l ++ (ds.take j).flatten) ++ ds[j] by rw [flatten_take_succ ds j hlt, List.append_assoc])
      have Hlen1 := Lib.hid (show ((l ++ (ds.take j).flatten) ++ ds[j]).length = (l ++ (ds.take j).flatten).length + 32 by rw [List.length_append, hd32])
      generalize ds[j] = d at *
      generalize l ++ (ds.take j).flatten = l2 at *
      have h63 : l2.length + 32 ≤ maxLen := by unfold maxLen; omega
      have hby : (l2.length + 32) * 1 ≤ 140737488355328 := by omega
      clear hd32
      go_wp2_with (first
        | ((with_reducible show wpList _ _ _ (Oper.mk _ (Op.load _ _) _ _ _ _ :: _) _ _); refine wpl rfl ?_; refine owp_loadR rfl rfl hc Hd.out ?_)
        | ((with_reducible show wpList _ _ _ (Oper.mk (some 6) (Op.alloc _) _ _ _ _ :: _) _ _); refine wpl rfl ?_; refine (owp_allocAt hS 6 rfl rfl ?_); clear hS; intro gd _ hS; simp only [List.cons_append, List.nil_append] at hS)
        | ((with_reducible show wpList _ _ _ (Oper.mk _ (Op.store _ _ _) _ _ _ _ :: _) _ _); refine wpl rfl ?_; refine (owp_storeW hS 1 rfl rfl rfl rfl (Hd.out) (by rfl) (bs_one _) ?_); clear hS; intro _ hS; try simp only [List.cons_append, List.nil_append, List.append_nil, List.set_cons_zero, List.set_cons_succ] at hS)
        | ((with_reducible show wpList _ _ _ (Oper.mk _ (Op.call (Call.mk (Callee.builtin Builtin.append) _ _)) _ _ _ _ :: _) _ _); refine wpl rfl ?_; refine owp_append2 hS 0 rfl rfl rfl hrow rfl (RowR.part (hS.get 1 rfl) 0 32 32 (bs d) (by rw [List.drop_zero, List.take_of_length_le (Nat.le_of_eq Hd.out)]) Hd.out (by omega)) (bs_one _) h63 hby ?_; clear hS hrow; intro v' x'' w2 hrow hS _; obtain ⟨a2, c2, rfl⟩ := hrow.isSl; try simp only [List.cons_append, List.nil_append, List.append_nil, List.set_cons_zero, List.set_cons_succ] at hS))
      refine ⟨⟨j + 1, x'', by omega, by simp, ?_, hS.pick [0] rfl (by decide)⟩, by simp [intOf]; omega⟩
      rw [Hstep.out, Hlen1.out, bs_append]
      exact hrow
    · have hjk : j = ds.length := by omega
      subst hjk
      rw [List.take_length] at hrow ⊢
      generalize hl2 : l ++ ds.flatten = l2 at *
      go_wp2_with fail
      go_ret
      exact ⟨_, x', rfl, hrow, hS⟩

/-- The pieces of a lamp's signature, as they lie: shown, other, shown, other .. -/
def lampTo (s : LSig) (j : Nat) : List UInt8 := (List.range j).flatMap (fun i => (s.shown.drop (i * 16)).take 16 ++ (s.other.drop (i * 16)).take 16)
def layLamp (s : LSig) : List UInt8 := lampTo s 32
theorem lampTo_succ (s : LSig) (j : Nat) : lampTo s (j + 1) = (lampTo s j ++ (s.shown.drop (j * 16)).take 16) ++ (s.other.drop (j * 16)).take 16 := by
  simp [lampTo, List.range_succ]
theorem lampTo_length (s : LSig) (h1 : s.shown.length = 512) (h2 : s.other.length = 512) : ∀ j, j ≤ 32 → (lampTo s j).length = 32 * j
  | 0, _ => rfl
  | j + 1, hj => by
    have ih := lampTo_length s h1 h2 j (by omega)
    rw [lampTo_succ]
    simp only [List.length_append, List.length_take, List.length_drop, ih, h1, h2]
    omega

theorem layLamp_ok (s : LSig) (h1 : s.shown.length = 512) (h2 : s.other.length = 512) (x : Ent) (v : Value) (l : List UInt8) (w : World) (hb : Holds w x) (hv : RowV 5 1 v l.length (bs l) x)
    (hl : l.length ≤ 100000000) :
    Calls Try.prog 59 #[.agg s.cells.toArray, v] w (OPost w x (l ++ layLamp s)) := by
  have hS := St.start w [x] (fun y hy => by simp at hy; subst hy; exact hb) (by cases x <;> simp [keys])
  have Hs := Lib.hid (fun (n : Nat) (hn : n + 16 ≤ 512) => show (s.cells.drop n).take 16 = bs ((s.shown.drop n).take 16) by
    show ((bs s.shown ++ bs s.other).drop n).take 16 = _
    rw [List.drop_append_of_le_length (by rw [bs_length]; omega), List.take_append_of_le_length (by rw [List.length_drop, bs_length]; omega), bs_drop, bs_take])
  have Ho := Lib.hid (fun (n : Nat) (hn : n + 16 ≤ 512) => show (s.cells.drop (512 + n)).take 16 = bs ((s.other.drop n).take 16) by
    show ((bs s.shown ++ bs s.other).drop (512 + n)).take 16 = _
    have e1 : (bs s.shown).drop (512 + n) = [] := List.drop_eq_nil_of_le (by rw [bs_length]; omega)
    rw [List.drop_append, e1, List.nil_append, bs_length, h1, show 512 + n - 512 = n by omega, bs_drop, bs_take])
  have Hlt := Lib.hid (lampTo_length s h1 h2)
  have H1 := Lib.hid h1
  have H2 := Lib.hid h2
  clear h1 h2
  generalize s.cells = cs at *
  obtain ⟨a0, c0, rfl⟩ := hv.isSl
  go_enter Try.func59, Try.ntmps59
  go_wp2_with (first
    | ((with_reducible show wpList _ _ _ (Oper.mk _ (Op.box _ _) _ _ _ _ :: _) _ _); refine wpl rfl ?_; refine owp_box hS rfl (vs := cs) rfl ?_; clear hS; intro gs _ hS; try simp only [List.cons_append, List.nil_append, List.append_nil, List.set_cons_zero, List.set_cons_succ] at hS))
  go_loopw [1, 5, 6] (fun o _ i wr => ∃ (j : Nat) (x' : Ent), j ≤ 32 ∧ i = .int .i64 j ∧ RowV 5 1 o (l ++ lampTo s j).length (bs (l ++ lampTo s j)) x' ∧ St w (keys [x]) wr [x', some (gs, cs, 38)]) (fun _ _ i _ => 32 - (intOf i).toNat)
  case atStart => exact ⟨0, x, Nat.zero_le _, rfl, by simpa [lampTo] using hv, hS⟩
  case round =>
    clear hS hv
    obtain ⟨j, x', hj, rfl, hrow, hS⟩ := hrel
    obtain ⟨a1, c1, rfl⟩ := hrow.isSl
    by_cases hlt : j < 32
    · have Hp := Lib.hid (Hs.out (j * 16) (by omega))
      have Hq := Lib.hid (Ho.out (j * 16) (by omega))
      have hlen : (l ++ lampTo s j).length ≤ 200000000 := by rw [List.length_append, Hlt.out j hj]; omega
      have hp16 : ((s.shown.drop (j * 16)).take 16).length = 16 := by rw [List.length_take, List.length_drop, H1.out]; omega
      have hq16 : ((s.other.drop (j * 16)).take 16).length = 16 := by rw [List.length_take, List.length_drop, H2.out]; omega
      have Hstep := Lib.hid (show l ++ lampTo s (j + 1) = ((l ++ lampTo s j) ++ (s.shown.drop (j * 16)).take 16) ++ (s.other.drop (j * 16)).take 16 by rw [lampTo_succ]; simp [List.append_assoc])
      generalize l ++ lampTo s j = l2 at *
      generalize (s.shown.drop (j * 16)).take 16 = p at *
      generalize (s.other.drop (j * 16)).take 16 = q at *
      have Hlp := Lib.hid (show (bs p).length = 16 by rw [bs_length, hp16])
      have Hlq := Lib.hid (show (bs q).length = 16 by rw [bs_length, hq16])
      have Hfin := Lib.hid (show (l2 ++ p ++ q).length = l2.length + 16 + 16 by rw [List.length_append, List.length_append, hp16, hq16])
      have h63 : l2.length + 16 ≤ maxLen := by unfold maxLen; omega
      have hby : (l2.length + 16) * 1 ≤ 140737488355328 := by omega
      have h63b : l2.length + 16 + 16 ≤ maxLen := by unfold maxLen; omega
      have hbyb : (l2.length + 16 + 16) * 1 ≤ 140737488355328 := by omega
      have hi1 : (0 : Int) ≤ j := by omega
      have hi2 : (j : Int) < 32 := by omega
      clear hp16 hq16
      go_wp2_with fail
      replace hS := hS.drew
      refine wp_region_held_drew (S := (fun _ => True)) (by kernel_rfl) trivial (fun hHeld => ?_)
      refine htake (i := 0) (v := (.slice a1 l2.length c1)) rfl (by kernel_rfl) (by kernel_rfl) (by kernel_rfl) (fun _ _ _ h => h) (Or.inl ⟨by rfl, by (intro w hSw; (try dsimp only at hSw); (try obtain hSw := hSw); go_simp; try with_reducible rfl)⟩) (by assumption) ?_; simp only [Act.put, List.setIfInBounds_toArray, List.set_cons_succ, List.set_cons_zero]
      refine htake (i := 1) (v := (.int .i64 j)) rfl (by kernel_rfl) (by kernel_rfl) (by kernel_rfl) (fun _ _ _ h => h) (Or.inl ⟨by rfl, by (intro w hSw; (try dsimp only at hSw); (try obtain hSw := hSw); go_simp; try with_reducible rfl)⟩) (by assumption) ?_; simp only [Act.put, List.setIfInBounds_toArray, List.set_cons_succ, List.set_cons_zero]
      refine htake (i := 2) (v := (.pointer (some ⟨gs, 0, none⟩))) rfl (by kernel_rfl) (by kernel_rfl) (by kernel_rfl) (fun _ _ _ h => h) (Or.inl ⟨by rfl, by (intro w hSw; (try dsimp only at hSw); (try obtain hSw := hSw); go_simp; try with_reducible rfl)⟩) (by assumption) ?_; simp only [Act.put, List.setIfInBounds_toArray, List.set_cons_succ, List.set_cons_zero]
      refine htake (i := 3) (v := (.pointer (some ⟨gs, j * 16, none⟩))) rfl (by kernel_rfl) (by kernel_rfl) (by kernel_rfl) (fun _ _ _ h => h) (Or.inl ⟨by rfl, by (intro w hSw; (try dsimp only at hSw); (try obtain hSw := hSw); go_simp; try with_reducible rfl)⟩) (by assumption) ?_; simp only [Act.put, List.setIfInBounds_toArray, List.set_cons_succ, List.set_cons_zero]
      refine htake (i := 4) (v := (.slice (some ⟨gs, j * 16, none⟩) 16 16)) rfl (by kernel_rfl) (by kernel_rfl) (by kernel_rfl) (fun _ _ _ h => h) (Or.inl ⟨by rfl, by (intro w hSw; (try dsimp only at hSw); (try obtain hSw := hSw); go_simp; try with_reducible rfl)⟩) (by assumption) ?_; simp only [Act.put, List.setIfInBounds_toArray, List.set_cons_succ, List.set_cons_zero]
      refine htake (i := 6) (v := (.int .i64 j)) rfl (by kernel_rfl) (by kernel_rfl) (by kernel_rfl) (fun _ _ _ h => h) (Or.inl ⟨by rfl, by (intro w hSw; (try dsimp only at hSw); (try obtain hSw := hSw); go_simp; try with_reducible rfl)⟩) (by assumption) ?_; simp only [Act.put, List.setIfInBounds_toArray, List.set_cons_succ, List.set_cons_zero]
      refine htake (i := 7) (v := (.pointer (some ⟨gs, 512, none⟩))) rfl (by kernel_rfl) (by kernel_rfl) (by kernel_rfl) (fun _ _ _ h => h) (Or.inl ⟨by rfl, by (intro w hSw; (try dsimp only at hSw); (try obtain hSw := hSw); go_simp; try with_reducible rfl)⟩) (by assumption) ?_; simp only [Act.put, List.setIfInBounds_toArray, List.set_cons_succ, List.set_cons_zero]
      refine htake (i := 8) (v := (.pointer (some ⟨gs, 512 + j * 16, none⟩))) rfl (by kernel_rfl) (by kernel_rfl) (by kernel_rfl) (fun _ _ _ h => h) (Or.inl ⟨by rfl, by (intro w hSw; (try dsimp only at hSw); (try obtain hSw := hSw); go_simp; try with_reducible rfl)⟩) (by assumption) ?_; simp only [Act.put, List.setIfInBounds_toArray, List.set_cons_succ, List.set_cons_zero]
      refine htake (i := 9) (v := (.slice (some ⟨gs, 512 + j * 16, none⟩) 16 16)) rfl (by kernel_rfl) (by kernel_rfl) (by kernel_rfl) (fun _ _ _ h => h) (Or.inl ⟨by rfl, by (intro w hSw; (try dsimp only at hSw); (try obtain hSw := hSw); go_simp; try with_reducible rfl)⟩) (by assumption) ?_; simp only [Act.put, List.setIfInBounds_toArray, List.set_cons_succ, List.set_cons_zero]
      refine wpAnyH_ready (rs := [5]) (by kernel_rfl) (by simp) ?_
      refine hcons rfl rfl (fun K hK => ?_) ?_
      · clear hHeld
        refine owp_append2 hS 0 rfl rfl rfl hrow rfl (RowR.part (hS.get 1 rfl) (j * 16) 16 16 (bs p) Hp.out Hlp.out (by omega)) (bs_one _) h63 hby ?_
        clear hS hrow
        intro v5 x5 _ hrow hS _
        obtain ⟨a5, c5, rfl⟩ := hrow.isSl
        try simp only [List.cons_append, List.nil_append, List.append_nil, List.set_cons_zero, List.set_cons_succ] at hS
        refine hK.out _ _ trivial (fun hHeld => ?_)
        clear hK K
        simp only [Act.put, List.setIfInBounds_toArray, List.set_cons_succ, List.set_cons_zero]
        refine wpAnyH_ready (rs := [10]) (by kernel_rfl) (by simp) ?_
        refine hcons rfl rfl (fun K hK => ?_) ?_
        · clear hHeld
          refine owp_append2 hS 0 rfl rfl rfl hrow rfl (RowR.part (hS.get 1 rfl) (512 + j * 16) 16 16 (bs q) Hq.out Hlq.out (by omega)) (bs_one _) h63b hbyb ?_
          clear hS hrow
          intro v6 x6 _ hrow hS _
          obtain ⟨a6, c6, rfl⟩ := hrow.isSl
          try simp only [List.cons_append, List.nil_append, List.append_nil, List.set_cons_zero, List.set_cons_succ] at hS
          refine hK.out _ _ trivial (fun hHeld => ?_)
          clear hK K
          simp only [Act.put, List.setIfInBounds_toArray, List.set_cons_succ, List.set_cons_zero]
          refine htake (i := 11) (v := (.slice a6 (l2.length + 16 + 16) c6)) rfl (by kernel_rfl) (by kernel_rfl) (by kernel_rfl) (fun _ _ _ h => h) (Or.inl ⟨by rfl, by (intro w hSw; (try dsimp only at hSw); (try obtain hSw := hSw); go_simp; try with_reducible rfl)⟩) (by assumption) ?_; simp only [Act.put, List.setIfInBounds_toArray, List.set_cons_succ, List.set_cons_zero]
          refine wpAnyH_done (by kernel_rfl) ?_ _
          clear hHeld
          go_wp2_with fail
          go_roundw
          case rel =>
            refine ⟨j + 1, x6, by omega, by go_num, ?_, hS⟩
            rw [Hstep.out, Hfin.out, bs_append, bs_append]
            exact hrow
          case measure => simp [intOf]; omega
        exact AllReadyH.nil
      exact AllReadyH.nil
    · have hjk : j = 32 := by omega
      subst hjk
      have Hlay := Lib.hid (show l ++ layLamp s = l ++ lampTo s 32 from rfl)
      generalize l ++ lampTo s 32 = l2 at *
      go_wp2_with fail
      go_ret
      refine ⟨_, x', rfl, ?_, hS.pick [0] rfl (by decide)⟩
      rw [Hlay.out]
      exact hrow

end Go.Proofs.Ytjgphbdffhmmgaa
