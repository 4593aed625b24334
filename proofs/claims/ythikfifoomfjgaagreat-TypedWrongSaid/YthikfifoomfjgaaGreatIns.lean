/- Contract of slices.Insert at elements of three cells, of one value that lies in a block of its own. -/
import Derived.Test.YthikfifoomfjgaaGreatDel
import Derived.Lib.Overlaps
import Derived.Laws.Externs
import Derived.IntWalk
namespace Go.Tr
set_option linter.unusedVariables false
set_option linter.unusedSimpArgs false
def inserted (l : List Cell3) (i : Nat) (t : Cell3) : List Cell3 := l.take i ++ t :: l.drop i
theorem flat_ins (l : List Cell3) (i : Nat) (t : Cell3) : flat (inserted l i t) = flat (l.take i) ++ (cells3 t ++ flat (l.drop i)) := by rw [inserted, flat_app, flat_cons]
theorem ins_len (l : List Cell3) (i : Nat) (t : Cell3) (hi : i ≤ l.length) : (inserted l i t).length = l.length + 1 := by simp [inserted]; omega
theorem ins_up (l : List Cell3) (i : Nat) (t : Cell3) (hi : i ≤ l.length) (ys : List Value) (hy : ys.length = (l.length + 1) * 3) (ht : ys.take (i * 3) = flat (l.take i)) :
    setL (setL ys (i * 3) (cells3 t)) ((i + 1) * 3) (flat (l.drop i)) = flat (inserted l i t) := by
  have hd : (flat (l.drop i)).length = (l.length - i) * 3 := by rw [flat_length, List.length_drop]
  have hc : (cells3 t).length = 3 := rfl
  have hti : (ys.take (i * 3)).length = i * 3 := by rw [List.length_take, hy]; omega
  have l1 : (ys.take (i * 3) ++ cells3 t).length = (i + 1) * 3 := by rw [List.length_append, hti, hc]; omega
  have hdl : (ys.drop (i * 3 + (cells3 t).length)).length = (l.length - i) * 3 := by rw [List.length_drop, hc, hy]; omega
  rw [flat_ins, ← ht]
  generalize flat (l.drop i) = fd at hd ⊢
  rw [setL_eq fd _ _ (by rw [setL_length, hd, hy]; omega), setL_eq (cells3 t) ys _ (by rw [hc, hy]; omega)]
  rw [← List.append_assoc (ys.take (i * 3)), List.take_left' l1, List.drop_eq_nil_of_le (by rw [List.length_append, l1, hdl, hd]; omega), List.append_nil, List.append_assoc]
theorem ins_down (l : List Cell3) (i : Nat) (t : Cell3) (hi : i ≤ l.length) (ys : List Value) (hy : ys.length = (l.length + 1) * 3) (ht : ys.take (i * 3) = flat (l.take i)) :
    setL (setL ys ((i + 1) * 3) (flat (l.drop i))) (i * 3) (cells3 t) = flat (inserted l i t) := by
  rw [← ins_up l i t hi ys hy ht]
  have hd : (flat (l.drop i)).length = (l.length - i) * 3 := by rw [flat_length, List.length_drop]
  have hc : (cells3 t).length = 3 := rfl
  apply List.ext_getElem?
  intro j
  rw [setL_get _ _ _ _ (by rw [setL_length, hc, hy]; omega), setL_get _ _ _ _ (by rw [hd, hy]; omega), setL_get _ _ _ _ (by rw [setL_length, hd, hy]; omega), setL_get _ _ _ _ (by rw [hc, hy]; omega), hc, hd]
  by_cases h1 : i * 3 ≤ j ∧ j < i * 3 + 3
  · rw [if_pos h1, if_neg (by omega), if_pos h1]
  · rw [if_neg h1]
    by_cases h2 : (i + 1) * 3 ≤ j ∧ j < (i + 1) * 3 + (l.length - i) * 3
    · rw [if_pos h2, if_pos h2]
    · rw [if_neg h2, if_neg h2, if_neg h1]
/-- The cells of a slice of a row. -/
theorem owns_src {w : World} {base n cap g size : Nat} {e : TypeId} {ys : List Value} (h : w.ownsRow base e size (.slice (some ⟨g, 0, none⟩) n cap) n ys) (o : Nat) (cs : List Value) (hc : ∀ j u, cs[j]? = some u → ys[o + j]? = some u) :
    ∀ j u, cs[j]? = some u → w.cell? ((⟨g, o, none⟩ : Addr).add j) = some u := fun j u hu => by
  have h1 := hc j u hu
  have hlt := (List.getElem?_eq_some_iff.1 h1).1
  have hadd : (⟨g, o, none⟩ : Addr).add j = ⟨g, o + j, none⟩ := by unfold Addr.add; split <;> simp_all
  rw [hadd, h.cellAt _ (by rw [← h.1]; exact hlt)]
  exact h1
theorem block_src {w : World} {g : Nat} {cs : List Value} {e : TypeId} (h : w.heap[g]? = some (.cells cs.toArray e (0, 0))) : ∀ j u, cs[j]? = some u → w.cell? ((⟨g, 0, none⟩ : Addr).add j) = some u := fun j u hu => by
  have hadd : (⟨g, 0, none⟩ : Addr).add j = ⟨g, j, none⟩ := by unfold Addr.add; split <;> simp_all
  rw [hadd, cell_of_row w g j cs.toArray e (0, 0) h]
  simpa using hu
end Go.Tr
namespace Go.Proofs.YthikfifoomfjgaaGreat
open Go.RowKit Go.Tr
set_option maxRecDepth 100000
set_option linter.unusedVariables false
set_option linter.unusedSimpArgs false
section
attribute [local go_sem] run_store
set_option maxHeartbeats 2000000 in
theorem insert_end (base : Nat) (w : World) (v : Value) (l : List Cell3) (h1 : ∀ t ∈ l, t.1.oneCell' = true ∧ t.2.1.oneCell' = true ∧ t.2.2.oneCell' = true) (hl : l.length ≤ 1048576)
    (hown : w.ownsRow base 35 3 v l.length (flat l)) (t : Cell3) (vb : Nat) (hvb : w.heap[vb]? = some (.cells (cells3 t).toArray 35 (0, 0))) (ht : t.1.oneCell' = true ∧ t.2.1.oneCell' = true ∧ t.2.2.oneCell' = true) (hne : v.ownBlock ≠ some vb) (hbase : base ≤ w.heap.size) :
    Calls Tryz.prog 52 #[v, .int .i64 l.length, .slice (some ⟨vb, 0, none⟩) 1 1] w fun e w' => ∃ v', e = .returned v' ∧
      w'.ownsRow base 35 3 v' (l.length + 1) (flat l ++ cells3 t) ∧ w.grownBy w' v.ownBlock := by
  have hsrc := block_src hvb
  obtain ⟨i3, hi3, hz3, hs3, hb3⟩ := info_parts (P := Tryz.prog) (e := 35) (z := .agg #[.int .i64 0, .slice none 0 0, .slice none 0 0]) (size := 3) (bytes := 56) (by kernel_rfl)
  have z3 : (Value.agg #[.int .i64 0, .slice none 0 0, .slice none 0 0]).cells.size = 3 := rfl
  have HO := Lib.hid hown
  have HS := Lib.hid hsrc
  have hone : ∀ u ∈ cells3 t, u.oneCell' = true := by simp [cells3, ht]
  have H1 := Lib.hid hone
  have hcase : (v = .slice none 0 0 ∧ l = []) ∨ ∃ gb cap, v = .slice (some ⟨gb, 0, none⟩) l.length cap ∧ l.length ≤ cap ∧ cap ≤ maxLen := by
    rcases hown.2 with ⟨h, hn⟩ | ⟨gb, cap, cur, h, -, hc, h2, h3, -⟩
    · exact .inl ⟨h, List.eq_nil_of_length_eq_zero hn⟩
    · exact .inr ⟨gb, cap, h, h2, h3⟩
  clear hvb hown hsrc hone h1 ht
  rcases hcase with ⟨rfl, rfl⟩ | ⟨gb, cap, rfl, hc1, hc2⟩
  · simp only [List.length_nil] at hl HO ⊢
    go_enter Tryz.func52, Tryz.ntmps52
    go_wp2_with (at_builtin; (refine wpList_append_own _ rfl _ _ 26 rfl base 35 i3 _ 3 56 Tryz.underlying26 hi3 hz3 hs3 hb3 z3 (by omega) _ _ _ rfl HO.out ⟨vb, 0, none⟩ 1 1 (cells3 t) rfl rfl HS.out H1.out (by unfold maxLen; omega) (by omega) hbase ?_); intro v' w1 hown1 hgrow1 _; (have HO1 := Lib.hid hown1); (have HG1 := Lib.hid hgrow1); clear hown1 hgrow1)
    exact ⟨rfl, v', results_tmp (t := 6) rfl _ _ _, _, rfl, HO1.out, HG1.out⟩
  · unfold maxLen at hc2
    by_cases hcl : cap = l.length
    · subst hcl
      go_enter Tryz.func52, Tryz.ntmps52
      go_wp2_with (at_builtin; (refine wpList_append_own _ rfl _ _ 26 rfl base 35 i3 _ 3 56 Tryz.underlying26 hi3 hz3 hs3 hb3 z3 (by omega) _ _ _ rfl HO.out ⟨vb, 0, none⟩ 1 1 (cells3 t) rfl rfl HS.out H1.out (by unfold maxLen; omega) (by omega) hbase ?_); intro v' w1 hown1 hgrow1 _; (have HO1 := Lib.hid hown1); (have HG1 := Lib.hid hgrow1); clear hown1 hgrow1)
      exact ⟨rfl, v', results_tmp (t := 6) rfl _ _ _, _, rfl, HO1.out, HG1.out⟩
    · have hlt : l.length < cap := by omega
      go_enter Tryz.func52, Tryz.ntmps52
      go_wp2_with (at_builtin; (refine wpList_append_own _ rfl _ _ 26 rfl base 35 i3 _ 3 56 Tryz.underlying26 hi3 hz3 hs3 hb3 z3 (by omega) _ _ _ rfl HO.out ⟨vb, 0, none⟩ 1 1 (cells3 t) rfl rfl HS.out H1.out (by unfold maxLen; omega) (by omega) hbase ?_); intro v' w1 hown1 hgrow1 _; (have HO1 := Lib.hid hown1); (have HG1 := Lib.hid hgrow1); clear hown1 hgrow1)
      exact ⟨rfl, v', results_tmp (t := 6) rfl _ _ _, _, rfl, HO1.out, HG1.out⟩
set_option maxHeartbeats 2000000 in
theorem insert_grow (base : Nat) (w : World) (gb cap i : Nat) (l : List Cell3) (h1 : ∀ t ∈ l, t.1.oneCell' = true ∧ t.2.1.oneCell' = true ∧ t.2.2.oneCell' = true) (hl : l.length ≤ 1048576) (hi : i < l.length) (hroom : cap < l.length + 1)
    (hown : w.ownsRow base 35 3 (.slice (some ⟨gb, 0, none⟩) l.length cap) l.length (flat l)) (t : Cell3) (vb : Nat) (hvb : w.heap[vb]? = some (.cells (cells3 t).toArray 35 (0, 0))) (ht : t.1.oneCell' = true ∧ t.2.1.oneCell' = true ∧ t.2.2.oneCell' = true) (hbase : base ≤ w.heap.size) :
    Calls Tryz.prog 52 #[.slice (some ⟨gb, 0, none⟩) l.length cap, .int .i64 i, .slice (some ⟨vb, 0, none⟩) 1 1] w fun e w' => ∃ v', e = .returned v' ∧
      w'.ownsRow base 35 3 v' (inserted l i t).length (flat (inserted l i t)) ∧ w.grownBy w' (some gb) := by
  have hcap : l.length ≤ cap := by
    rcases hown.2 with ⟨h, -⟩ | ⟨gb', cap', cur, h, -, hc, h2, h3, -⟩
    · cases h
    · cases h; exact h2
  obtain ⟨i3, hi3, hz3, hs3, hb3⟩ := info_parts (P := Tryz.prog) (e := 35) (z := .agg #[.int .i64 0, .slice none 0 0, .slice none 0 0]) (size := 3) (bytes := 56) (by kernel_rfl)
  have z3 : (Value.agg #[.int .i64 0, .slice none 0 0, .slice none 0 0]).cells.size = 3 := rfl
  have hc3 : (cells3 t).length = 3 := rfl
  obtain ⟨v', w1, zs, hrun, ho1, hb1, cap', rfl⟩ := run_append_make (P := Tryz.prog) w base 26 3 26 35 i3 _ .i64 .i64 3 56 Tryz.underlying26 Tryz.underlying3 hi3 hz3 hs3 hb3 z3 (by omega) ⟨gb, 0, none⟩ i cap (l.length + 1 - i) (flat (l.take i)) (by rw [flat_length, List.length_take]; omega)
    (owns_src hown 0 _ fun j u hu => by rw [← flat_take, List.getElem?_take] at hu; split at hu; (· simpa using hu); (· cases hu)) (by omega) (by omega) (by unfold maxLen; omega) (by omega) hbase
  have hn1 : i + (l.length + 1 - i) = l.length + 1 := by omega
  rw [hn1] at ho1 hrun
  have hvb1 := hb1.block vb (Array.getElem?_eq_some_iff.1 hvb).1
  have ho2 := owns_below hown hb1
  have hcap' : l.length + 1 ≤ cap' ∧ cap' ≤ maxLen := by
    rcases ho1.2 with ⟨h, -⟩ | ⟨gb', cap', cur, h, -, hc, h2, h3, -⟩
    · cases h
    · cases h; exact ⟨h2, h3⟩
  have hone : ∀ u ∈ cells3 t, u.oneCell' = true := by simp [cells3, ht]
  have hth1 := owns_there ho1 (i * 3) 3 (by omega)
  have hs1 := owns_storedL (cells3 t) ho1 (i * 3)
  have hk1 := run_copy_size (P := Tryz.prog) w1 26 26 3 35 i3 3 w.heap.size (i * 3) (l.length + 1 - i) (cap' - i) ⟨vb, 0, none⟩ 1 1 (cells3 t) Tryz.underlying26 hi3 hs3 1 (by simp [Nat.min_def]; omega) rfl (block_src (hvb1 ▸ hvb)) (fun j hj => (hth1 j hj).1) (fun j hj => (hth1 j hj).2) hone
  generalize hw2 : w1.setCells w.heap.size (i * 3) (cells3 t) = w2 at hs1 hk1
  have ho3 := ho2.kept hs1.2 (by simp [Value.ownBlock]; have := (hown.lt gb rfl).2; omega)
  have ho3d := owns_below ho3 ((Below.refl w2.heap.size w2).drew)
  have hs1d := owns_below hs1.1 ((Below.refl w2.heap.size w2).drew)
  have hth2 := owns_there hs1d ((i + 1) * 3) ((l.length - i) * 3) (by omega)
  have hfl : (flat (l.drop i)).length = (l.length - i) * 3 := by rw [flat_length, List.length_drop]
  have hk2 := run_copy_size (P := Tryz.prog) w2.drew 26 26 3 35 i3 3 w.heap.size ((i + 1) * 3) (l.length + 1 - (i + 1)) (cap' - (i + 1)) ⟨gb, i * 3, none⟩ (l.length - i) (cap - i) (flat (l.drop i)) Tryz.underlying26 hi3 hs3 (l.length - i) (by simp [Nat.min_def] <;> omega) hfl
    (owns_src ho3d (i * 3) _ fun j u hu => by rw [← flat_drop, List.getElem?_drop] at hu; exact hu) (fun j hj => (hth2 j (by omega)).1) (fun j hj => (hth2 j (by omega)).2) (flat_one fun x hx => h1 x (List.mem_of_mem_drop hx))
  have hs2 := owns_storedL (flat (l.drop i)) hs1d ((i + 1) * 3)
  generalize hw3 : w2.drew.setCells w.heap.size ((i + 1) * 3) (flat (l.drop i)) = w3 at hs2 hk2
  rw [ins_up l i t (by omega) _ (by rw [ho1.1]) (List.take_left' (by rw [flat_length, List.length_take]; omega))] at hs2
  have hg : w.grownBy w3 (some gb) := by
    have hgb := (hown.lt gb rfl).2
    have z1 := hb1.size
    have z2 := hs1.2.size
    have z3 := hs2.2.size
    refine ⟨hs2.2.os.trans (hs1.2.os.trans hb1.os), hs2.2.tape.trans (hs1.2.tape.trans hb1.tape), hs2.2.output.trans (hs1.2.output.trans hb1.output), by simp at z3; omega, fun k hk _ => ?_⟩
    have e3 := hs2.2.block k (by simp; omega) (by simp; omega)
    have e2 := hs1.2.block k (by omega) (by simp; omega)
    exact e3.trans (e2.trans (hb1.block k hk))
  have HR := Lib.hid hs2.1
  have HG := Lib.hid hg
  have HRUN := Lib.hid hrun
  have HK1 := Lib.hid hk1
  have HK2 := Lib.hid hk2
  have hiln : (inserted l i t).length = l.length + 1 := ins_len l i t (by omega)
  have HN := Lib.hid hiln
  clear hs2 hg hrun hk1 hk2 hw3 hth2 hs1d ho3d ho3 hs1 hw2 hth1 hone ho2 hvb1 ho1 hn1 hfl hiln h1 hown hvb ht
  obtain ⟨hca1, hca2⟩ := hcap'
  unfold maxLen at hca2
  have hne : ¬ ((i : Int) = (l.length : Int)) := by omega
  have hgt : decide ((l.length : Int) + 1 > (cap : Int)) = true := by simp; omega
  have hgt' : (cap : Int) < (l.length : Int) + 1 := by omega
  go_enter Tryz.func52, Tryz.ntmps52
  go_wp2_with (first
    | (at_builtin; (refine Lib.wpList_append_run _ rfl _ _ _ _ rfl _ _ rfl (show Value.int .i64 ((l.length : Int) + 1 - (i : Int)) = .int .i64 ((l.length + 1 - i : Nat) : Int) by congr 1; omega) _ _ HRUN.out ?_))
    | (refine wpList_copy_run _ rfl _ _ _ _ rfl _ _ rfl rfl HK1.out ?_))
  have hi1 : (0 : Int) ≤ (i : Int) + 1 := by omega
  have hi2 : ((i : Int) + 1).toNat = i + 1 := by omega
  have hi3' : (i : Int) + 1 ≤ (l.length : Int) + 1 := by omega
  have hi4 : ¬ cap' = i + 1 := by omega
  have hi5 : ¬ cap = i := by omega
  have hi7 : i ≤ l.length := by omega
  have hi6 : IntKind.i64.wrap ((i : Int) + 1) = (i : Int) + 1 := IntWalk.i64_in _ (by omega)
  go_region_law (refine step_copy_run rfl (.tmp 50) (.tmp 53) 26 26 rfl _ _ (by simp [Act.eval, Act.put]) (by simp [Act.eval, Act.put]) HK2.out ?_)
  clear hi1 hi2 hi3' hi4 hi5 hi6 hi7
  go_wp2
  exact ⟨rfl, .slice (some ⟨w.heap.size, 0, none⟩) (l.length + 1) cap', results_tmp (t := 6) rfl _ _ _, _, rfl, by rw [HN.out]; exact HR.out, HG.out⟩
theorem shape_of_block {w : World} {g : Nat} {cs : Array Value} {e : TypeId} {fz : Nat × Nat} (h : w.heap[g]? = some (.cells cs e fz)) : w.shape? g = some (e, cs.size) := by
  simp [World.shape?, h]
set_option maxHeartbeats 2000000 in
theorem insert_room (base : Nat) (w : World) (gb cap i : Nat) (l : List Cell3) (h1 : ∀ t ∈ l, t.1.oneCell' = true ∧ t.2.1.oneCell' = true ∧ t.2.2.oneCell' = true) (hl : l.length ≤ 1048576) (hi : i < l.length) (hroom : l.length + 1 ≤ cap)
    (hown : w.ownsRow base 35 3 (.slice (some ⟨gb, 0, none⟩) l.length cap) l.length (flat l)) (t : Cell3) (vb : Nat) (hvb : w.heap[vb]? = some (.cells (cells3 t).toArray 35 (0, 0))) (ht : t.1.oneCell' = true ∧ t.2.1.oneCell' = true ∧ t.2.2.oneCell' = true) (hne : vb ≠ gb) :
    Calls Tryz.prog 52 #[.slice (some ⟨gb, 0, none⟩) l.length cap, .int .i64 i, .slice (some ⟨vb, 0, none⟩) 1 1] w fun e w' => ∃ v', e = .returned v' ∧
      w'.ownsRow base 35 3 v' (inserted l i t).length (flat (inserted l i t)) ∧ w.grownBy w' (some gb) := by
  obtain ⟨hcap, curG, hcurG, hcszG⟩ : cap ≤ maxLen ∧ ∃ cur, w.heap[gb]? = some (.cells cur 35 (0, 0)) ∧ cur.size = cap * 3 := by
    rcases hown.2 with ⟨h, -⟩ | ⟨gb', cap', cur, h, -, hc, h2, h3, h4, -⟩
    · cases h
    · cases h; exact ⟨h3, cur, hc, h4⟩
  obtain ⟨i3, hi3, hz3, hs3, hb3⟩ := info_parts (P := Tryz.prog) (e := 35) (z := .agg #[.int .i64 0, .slice none 0 0, .slice none 0 0]) (size := 3) (bytes := 56) (by kernel_rfl)
  have hone : ∀ u ∈ cells3 t, u.oneCell' = true := by simp [cells3, ht]
  have hov : ∀ lb cb, (callFunc 88 #[.slice (some ⟨vb, 0, none⟩) 1 1, .slice (some ⟨gb, (i + 1) * 3, none⟩) lb cb]).run Tryz.prog w = .ok (.value (.bool false)) w := fun lb cb => by
    rw [run_callFunc_extern Tryz.func88 (by kernel_rfl) (by kernel_rfl) (by kernel_rfl) (e := Extern.SlicesOverlaps.overlaps #[26, 26] #[4]) (by kernel_rfl),
      Lib.run_overlaps_apart w 26 4 35 Tryz.underlying26 3 (fun w => by kernel_rfl) ⟨vb, 0, none⟩ ⟨gb, (i + 1) * 3, none⟩ 1 1 lb cb hne _ _ _ _ (shape_of_block hvb) (shape_of_block hcurG) (by omega) (by simp [World.frozen?, hvb]) (by simp [World.frozen?, hvb])]
    rfl
  obtain ⟨zs, ho1⟩ := owns_longer hown (show l.length ≤ l.length + 1 by omega) hroom
  have ho1d := owns_below ho1 ((Below.refl w.heap.size w).drew)
  have hfl : (flat (l.drop i)).length = (l.length - i) * 3 := by rw [flat_length, List.length_drop]
  have hth1 := owns_there ho1d ((i + 1) * 3) ((l.length - i) * 3) (by omega)
  have hk1 := run_copy_size (P := Tryz.prog) w.drew 26 26 3 35 i3 3 gb ((i + 1) * 3) (l.length + 1 - (i + 1)) (cap - (i + 1)) ⟨gb, i * 3, none⟩ (l.length + 1 - i) (cap - i) (flat (l.drop i)) Tryz.underlying26 hi3 hs3 (l.length - i) (by simp [Nat.min_def] <;> omega) hfl
    (owns_src ho1d (i * 3) _ fun j u hu => by
      rw [← flat_drop, List.getElem?_drop] at hu
      rw [List.getElem?_append_left (List.getElem?_eq_some_iff.1 hu).1]; exact hu) (fun j hj => (hth1 j (by omega)).1) (fun j hj => (hth1 j (by omega)).2) (flat_one fun x hx => h1 x (List.mem_of_mem_drop hx))
  have hs1 := owns_storedL (flat (l.drop i)) ho1d ((i + 1) * 3)
  generalize hw2 : w.drew.setCells gb ((i + 1) * 3) (flat (l.drop i)) = w2 at hs1 hk1
  have hvlt := (Array.getElem?_eq_some_iff.1 hvb).1
  have hvb2 : w2.heap[vb]? = some (.cells (cells3 t).toArray 35 (0, 0)) := (hs1.2.block vb (by simpa using hvlt) (by simpa using hne)).trans hvb
  have hth2 := owns_there hs1.1 (i * 3) 3 (by omega)
  have hk2 := run_copy_size (P := Tryz.prog) w2 26 26 3 35 i3 3 gb (i * 3) (l.length + 1 - i) (cap - i) ⟨vb, 0, none⟩ 1 1 (cells3 t) Tryz.underlying26 hi3 hs3 1 (by simp [Nat.min_def] <;> omega) rfl (block_src hvb2) (fun j hj => (hth2 j hj).1) (fun j hj => (hth2 j hj).2) hone
  have hs2 := owns_storedL (cells3 t) hs1.1 (i * 3)
  generalize hw3 : w2.setCells gb (i * 3) (cells3 t) = w3 at hs2 hk2
  rw [ins_down l i t (by omega) _ (by rw [ho1.1]) (by rw [List.take_append_of_le_length (by rw [flat_length]; omega), flat_take])] at hs2
  have hg : w.grownBy w3 (some gb) := (show w.grownBy w.drew (some gb) from ⟨rfl, rfl, rfl, Nat.le_refl _, fun _ _ _ => rfl⟩).trans (hs1.2.trans hs2.2)
  have hnc : (n : Nat) → (c : Nat) → True := fun _ _ => trivial
  have HR := Lib.hid hs2.1
  have HG := Lib.hid hg
  have HK1 := Lib.hid hk1
  have HK2 := Lib.hid hk2
  have hiln : (inserted l i t).length = l.length + 1 := ins_len l i t (by omega)
  have HN := Lib.hid hiln
  clear hs2 hg hk1 hk2 hw3 hth2 hvb2 hvlt hw2 hs1 hth1 hfl ho1d ho1 hone hiln h1 hown hvb ht hnc hcurG hcszG hz3
  unfold maxLen at hcap
  have hne : ¬ ((i : Int) = (l.length : Int)) := by omega
  have hgt : decide ((l.length : Int) + 1 > (cap : Int)) = false := by simp; omega
  have hgt' : ¬ (cap : Int) < (l.length : Int) + 1 := by omega
  go_enter Tryz.func52, Tryz.ntmps52
  have hi1 : (0 : Int) ≤ (i : Int) + 1 := by omega
  have hi2 : ((i : Int) + 1).toNat = i + 1 := by omega
  have hi3' : (i : Int) + 1 ≤ (l.length : Int) + 1 := by omega
  have hi4 : ¬ cap = i + 1 := by omega
  have hi5 : ¬ cap = i := by omega
  have hi7 : i ≤ l.length := by omega
  have hi6 : IntKind.i64.wrap ((i : Int) + 1) = (i : Int) + 1 := IntWalk.i64_in _ (by omega)
  have hi8 : (i : Int) ≤ (l.length : Int) + 1 := by omega
  go_wp2_with fail
  go_region_law (refine step_copy_run rfl (.tmp 73) (.tmp 76) 26 26 rfl _ _ (by simp [Act.eval, Act.put]) (by simp [Act.eval, Act.put]) HK1.out ?_)
  clear hi1 hi2 hi3' hi4 hi6
  go_wp2_with (refine wpList_copy_run _ rfl _ _ _ _ rfl _ _ rfl rfl HK2.out ?_)
  exact ⟨rfl, .slice (some ⟨gb, 0, none⟩) (l.length + 1) cap, results_tmp (t := 6) rfl _ _ _, _, rfl, by rw [HN.out]; exact HR.out, HG.out⟩
/-- slices.Insert of one value that lies in a block of its own. -/
theorem insert_slot (base : Nat) (w : World) (v : Value) (i : Nat) (l : List Cell3) (h1 : ∀ t ∈ l, t.1.oneCell' = true ∧ t.2.1.oneCell' = true ∧ t.2.2.oneCell' = true) (hl : l.length ≤ 1048576) (hi : i ≤ l.length)
    (hown : w.ownsRow base 35 3 v l.length (flat l)) (t : Cell3) (vb : Nat) (hvb : w.heap[vb]? = some (.cells (cells3 t).toArray 35 (0, 0))) (ht : t.1.oneCell' = true ∧ t.2.1.oneCell' = true ∧ t.2.2.oneCell' = true) (hne : v.ownBlock ≠ some vb) (hbase : base ≤ w.heap.size) :
    Calls Tryz.prog 52 #[v, .int .i64 i, .slice (some ⟨vb, 0, none⟩) 1 1] w fun e w' => ∃ v', e = .returned v' ∧
      w'.ownsRow base 35 3 v' (inserted l i t).length (flat (inserted l i t)) ∧ w.grownBy w' v.ownBlock := by
  by_cases hil : i = l.length
  · subst hil
    refine (insert_end base w v l h1 hl hown t vb hvb ht hne hbase).mono fun e w' h => ?_
    obtain ⟨v', e1, e2, e3⟩ := h
    exact ⟨v', e1, by rw [ins_len l _ t (Nat.le_refl _), flat_ins, List.take_length, List.drop_length]; simpa [flat] using e2, e3⟩
  · rcases hown.2 with ⟨h, hn⟩ | ⟨gb, cap, cur, rfl, -, -⟩
    · omega
    · by_cases hr : l.length + 1 ≤ cap
      · exact insert_room base w gb cap i l h1 hl (by omega) hr hown t vb hvb ht (fun e => hne (by rw [e]; rfl))
      · exact insert_grow base w gb cap i l h1 hl (by omega) (by omega) hown t vb hvb ht hbase
end
end Go.Proofs.YthikfifoomfjgaaGreat
