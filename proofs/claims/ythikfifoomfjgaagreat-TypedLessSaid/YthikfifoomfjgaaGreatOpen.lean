/- What an argument's reading tells of memory: trees, rows. -/
import Derived.Test.YthikfifoomfjgaaGreatOwn
import Derived.SizedLaws
import Derived.ChangeArms
import Derived.ChangeSame
import Derived.Deep.Strs
namespace Go.Tr
set_option maxRecDepth 100000
set_option linter.unusedVariables false
set_option linter.unusedSimpArgs false
section
variable {H : Type} {enc : TypeId × Value → H} {P : Program} {W : World} {spare : Nat → Bool} {held : Bool}
theorem cells_at {a : Addr} {n : Nat} {cs : List Value} (h : W.cells? 0 a n = some cs) : cs.length = n ∧ ∀ j u, cs[j]? = some u → W.cell? (a.add j) = some u := by
  unfold World.cells? at h
  rw [if_pos (Nat.zero_le _)] at h
  have hl := mapM_some_length h
  simp only [List.length_range] at hl
  refine ⟨hl, fun j u hu => ?_⟩
  have hj : j < n := by rw [← hl]; exact (List.getElem?_eq_some_iff.1 hu).1
  have := mapM_some_get h j j (by simp [hj])
  rw [this, hu]
theorem add_none (b off i : Nat) : (⟨b, off, none⟩ : Addr).add i = ⟨b, off + i, none⟩ := by unfold Addr.add; split <;> simp_all
/-- A slice's reading, as a row of what its elements read as. -/
theorem open_row {α : Type} {t e : TypeId} {k bytes L : Nat} (ht : P.underlying t = some (.slice e)) (hk : P.cellsOf e = k) (hk0 : 0 < k) (hb : P.bytesOf e = bytes) (hL : reachBytes ≤ L * bytes) (hb0 : 0 < bytes) {fuel : Nat} {cs : List Value} {x : DataW H × List MemPlace}
    (h : DataW.trod enc P W 0 spare held fuel t cs = some x) (hw : ∀ z ∈ x.1.weights P t, z ≤ reachBytes) (R : List Value → α → Prop)
    (hR : ∀ n cs' y, n < fuel → DataW.trod enc P W 0 spare held n e cs' = some y → (∀ z ∈ y.1.weights P e, z ≤ reachBytes) → ∃ a, R cs' a) : ∃ (c : Value) (xs : List α), cs = [c] ∧ RowOf L 0 W k R c xs := by
  rcases DataW.trod_slice ht h with ⟨rfl, rfl⟩ | ⟨a, len, cap, elems, rest, n, rfl, rfl, rfl, -, hl, hm, hlen, hel, -, -⟩
  · exact ⟨_, [], rfl, none, 0, rfl, by simp, by simp, by simp, by simp, by simp⟩
  · have hwe : (elems.length + rest.length) * bytes ≤ reachBytes := by
      have := hw ((elems.length + rest.length) * bytes) (by simp [DataW.weights, ht, hb])
      exact this
    have hin : ∀ y ∈ elems, ∀ z ∈ y.1.weights P e, z ≤ reachBytes := fun y hy z hz => hw z (by
      simp only [DataW.weights, ht, List.mem_cons, List.mem_append]
      refine .inr (.inl ?_)
      have hm : ∀ (l : List (DataW H)), y.1 ∈ l → z ∈ DataW.weightsAll P e l := by
        intro l hl
        induction l with
        | nil => simp at hl
        | cons d r ih =>
          simp only [DataW.weightsAll, List.mem_append]
          rcases List.mem_cons.1 hl with rfl | hl
          · exact .inl hz
          · exact .inr (ih hl)
      exact hm _ (List.mem_map_of_mem hy))
    have hex : ∀ i, i < len → ∃ cs' x, W.cells? 0 (a.add (i * k)) k = some cs' ∧ R cs' x := fun i hi => by
      have h1 := hel i hi
      rw [List.getElem?_eq_getElem (by omega), hk] at h1
      obtain ⟨cs', h2, h3⟩ := Option.bind_eq_some_iff.1 h1
      obtain ⟨x, hx⟩ := hR n cs' _ (by omega) h3 (hin _ (List.getElem_mem (by omega)))
      exact ⟨cs', x, h2, hx⟩
    have hch : ∃ xs : List α, xs.length = len ∧ ∀ i (hi : i < xs.length), ∃ cs', W.cells? 0 (a.add (i * k)) k = some cs' ∧ R cs' xs[i] := by
      have : ∀ m, m ≤ len → ∃ xs : List α, xs.length = m ∧ ∀ i (hi : i < xs.length), ∃ cs', W.cells? 0 (a.add (i * k)) k = some cs' ∧ R cs' xs[i] := by
        intro m
        induction m with
        | zero => exact fun _ => ⟨[], rfl, fun i hi => by simp at hi⟩
        | succ m ih =>
          intro hm
          obtain ⟨xs, h1, h2⟩ := ih (by omega)
          obtain ⟨cs', x, h3, h4⟩ := hex m (by omega)
          refine ⟨xs ++ [x], by simp [h1], fun i hi => ?_⟩
          rcases Nat.lt_or_ge i xs.length with h | h
          · rw [List.getElem_append_left h]; exact h2 i h
          · have : i = m := by simp at hi; omega
            subst this
            rw [List.getElem_append_right (by omega)]
            exact ⟨cs', h3, by simpa using h4⟩
      exact this len (Nat.le_refl _)
    obtain ⟨xs, hxl, hxs⟩ := hch
    refine ⟨_, xs, rfl, some a, cap, by rw [hxl], ?_, by omega, hm, by simp, fun hne => ?_⟩
    · rw [hxl, ← hlen]
      have h1 : elems.length * bytes ≤ L * bytes := Nat.le_trans (Nat.mul_le_mul_right _ (Nat.le_add_right _ _)) (Nat.le_trans hwe hL)
      exact Nat.le_of_mul_le_mul_right h1 hb0
    · have h0 : 0 < xs.length := List.length_pos_iff.2 hne
      obtain ⟨cs0, c1, -⟩ := hxs 0 h0
      obtain ⟨l0, g0⟩ := cells_at c1
      have c0 := g0 0 cs0[0] (by rw [List.getElem?_eq_getElem (by omega)])
      obtain ⟨b, off, spot⟩ := a
      have hs : spot = none := by
        cases spot with
        | none => rfl
        | some s =>
          simp only [Addr.add, World.cell?, Option.isSome_some] at c0
          split at c0 <;> simp at c0
      subst hs
      refine ⟨b, off, rfl, Nat.zero_le _, fun i hi => ?_⟩
      obtain ⟨cs', d1, d2⟩ := hxs i hi
      obtain ⟨l1, g1⟩ := cells_at d1
      refine ⟨cs', l1, fun j u hu => ?_, d2⟩
      have := g1 j u hu
      rw [add_none, add_none] at this
      exact this
end
end Go.Tr
namespace Go.Proofs.YthikfifoomfjgaaGreat
open Go.RowKit Go.Tr
set_option maxRecDepth 100000
set_option linter.unusedVariables false
set_option linter.unusedSimpArgs false
section
variable {H : Type} {enc : TypeId × Value → H} {W : World} {spare : Nat → Bool} {held : Bool}
abbrev Great : Nat := 8796093022208
theorem wts_agg {ts : List TypeId} {ds : List (DataW H)} {j : Nat} {t : TypeId} {d : DataW H} {R : Nat → Prop} (h : ∀ z ∈ DataW.weightsEach Tryz.prog ts ds, R z) (ht : ts[j]? = some t) (hd : ds[j]? = some d) : ∀ z ∈ d.weights Tryz.prog t, R z :=
  fun z hz => h z (DataW.weights_mem_each ht hd z hz)
theorem int_wf {x : Int} (h : (Lit.int .i64 x).wf = true) : -9223372036854775808 ≤ x ∧ x ≤ 9223372036854775807 := by
  have h1 : IntKind.min .i64 = -9223372036854775808 := by rfl
  have h2 : IntKind.max .i64 = 9223372036854775807 := by rfl
  simp only [Lit.wf, Bool.and_eq_true, decide_eq_true_eq, h1, h2] at h
  exact h
/-- Messages of so much fuel read so. -/
def OpenMsg (W : World) (spare : Nat → Bool) (held : Bool) (enc : TypeId × Value → H) (fuel : Nat) : Prop :=
  ∀ cs x, DataW.trod enc Tryz.prog W 0 spare held fuel 28 cs = some x → (∀ z ∈ x.1.weights Tryz.prog 28, z ≤ reachBytes) → ∃ m, RMsg Great 0 W fuel cs m
theorem open_val {fuel : Nat} (ih : ∀ n, n < fuel → OpenMsg W spare held enc n) {cs : List Value} {x : DataW H × List MemPlace} (h : DataW.trod enc Tryz.prog W 0 spare held fuel 39 cs = some x) (hw : ∀ z ∈ x.1.weights Tryz.prog 39, z ≤ reachBytes) :
    ∃ v, RVal Great 0 W (RMsg Great 0 W fuel) cs v := by
  obtain ⟨xs, n, rfl, rfl, hl, hlen, hf⟩ := DataW.trod_struct Tryz.underlying39 h
  have hl3 : cs.length = 3 := by rw [hl]; kernel_rfl
  match cs, hl3 with
  | [c0, c1, c2], _ =>
    match xs, hlen with
    | [y0, y1, y2], _ =>
      have f0 : DataW.trod enc Tryz.prog W 0 spare held n 2 (([c0, c1, c2].drop 0).take (Tryz.prog.cellsOf 2)) = some y0 := hf 0 _ rfl
      have f1 : DataW.trod enc Tryz.prog W 0 spare held n 9 (([c0, c1, c2].drop 1).take (Tryz.prog.cellsOf 9)) = some y1 := hf 1 _ rfl
      have f2 : DataW.trod enc Tryz.prog W 0 spare held n 37 (([c0, c1, c2].drop 2).take (Tryz.prog.cellsOf 37)) = some y2 := hf 2 _ rfl
      rw [show Tryz.prog.cellsOf 2 = 1 by kernel_rfl] at f0
      rw [show Tryz.prog.cellsOf 9 = 1 by kernel_rfl] at f1
      rw [show Tryz.prog.cellsOf 37 = 1 by kernel_rfl] at f2
      simp only [List.drop_zero, List.drop_succ_cons, List.take_succ_cons, List.take_zero] at f0 f1 f2
      obtain ⟨i, e0, -, h0⟩ := DataW.trod_int Tryz.underlying2 f0
      obtain ⟨s, e1, e1', h1⟩ := DataW.trod_string Tryz.underlying9 f1
      cases e0
      cases e1
      have hw2 : ∀ z ∈ y2.1.weights Tryz.prog 37, z ≤ reachBytes := fun z hz => hw z (by
        simp only [DataW.weights, Tryz.underlying39, List.map_cons, List.map_nil]
        exact DataW.weights_mem_each (j := 2) rfl rfl z hz)
      obtain ⟨c, ms, e2, hr⟩ := open_row (k := 1) (bytes := 24) (L := Great) Tryz.underlying37 (by kernel_rfl) (by omega) (by kernel_rfl) (by decide) (by omega) f2 hw2 (RMsg Great 0 W (n + 1)) fun n' cs' y hn h3 h4 => by
        obtain ⟨m, hm⟩ := ih n' (by omega) cs' y h3 h4
        exact ⟨m, RMsg.keep (Nat.le_refl _) (Keeps.refl _ _) n' (n + 1) (by omega) hm⟩
      cases e2
      have hs : s.size ≤ reachBytes := by
        refine hw s.size ?_
        simp only [DataW.weights, Tryz.underlying39, List.map_cons, List.map_nil]
        refine DataW.weights_mem_each (j := 1) rfl rfl s.size ?_
        show s.size ∈ DataW.weights Tryz.prog 9 _
        rw [e1']
        simp [DataW.weights]
      exact ⟨⟨i, s, ms⟩, _, rfl, (int_wf h0).1, (int_wf h0).2, Nat.le_trans hs (by decide), hr⟩
theorem open_slot {fuel : Nat} (ih : ∀ n, n < fuel → OpenMsg W spare held enc n) {cs : List Value} {x : DataW H × List MemPlace} (h : DataW.trod enc Tryz.prog W 0 spare held fuel 35 cs = some x) (hw : ∀ z ∈ x.1.weights Tryz.prog 35, z ≤ reachBytes) :
    ∃ s, RSlot Great 0 W (RMsg Great 0 W fuel) cs s := by
  obtain ⟨xs, n, rfl, rfl, hl, hlen, hf⟩ := DataW.trod_struct Tryz.underlying35 h
  have hl3 : cs.length = 3 := by rw [hl]; kernel_rfl
  match cs, hl3 with
  | [c0, c1, c2], _ =>
    match xs, hlen with
    | [y0, y1, y2], _ =>
      have f0 : DataW.trod enc Tryz.prog W 0 spare held n 3 (([c0, c1, c2].drop 0).take (Tryz.prog.cellsOf 3)) = some y0 := hf 0 _ rfl
      have f1 : DataW.trod enc Tryz.prog W 0 spare held n 33 (([c0, c1, c2].drop 1).take (Tryz.prog.cellsOf 33)) = some y1 := hf 1 _ rfl
      have f2 : DataW.trod enc Tryz.prog W 0 spare held n 33 (([c0, c1, c2].drop 2).take (Tryz.prog.cellsOf 33)) = some y2 := hf 2 _ rfl
      rw [show Tryz.prog.cellsOf 3 = 1 by kernel_rfl] at f0
      rw [show Tryz.prog.cellsOf 33 = 1 by kernel_rfl] at f1 f2
      simp only [List.drop_zero, List.drop_succ_cons, List.take_succ_cons, List.take_zero] at f0 f1 f2
      obtain ⟨i, e0, -, h0⟩ := DataW.trod_int Tryz.underlying3 f0
      cases e0
      have hw1 : ∀ z ∈ y1.1.weights Tryz.prog 33, z ≤ reachBytes := fun z hz => hw z (by
        simp only [DataW.weights, Tryz.underlying35, List.map_cons, List.map_nil]
        exact DataW.weights_mem_each (j := 1) rfl rfl z hz)
      have hw2 : ∀ z ∈ y2.1.weights Tryz.prog 33, z ≤ reachBytes := fun z hz => hw z (by
        simp only [DataW.weights, Tryz.underlying35, List.map_cons, List.map_nil]
        exact DataW.weights_mem_each (j := 2) rfl rfl z hz)
      have hv : ∀ n' cs' (y : DataW H × List MemPlace), n' < n → DataW.trod enc Tryz.prog W 0 spare held n' 39 cs' = some y → (∀ z ∈ y.1.weights Tryz.prog 39, z ≤ reachBytes) → ∃ a, RVal Great 0 W (RMsg Great 0 W (n + 1)) cs' a := fun n' cs' y hn h3 h4 => by
        obtain ⟨v, hv⟩ := open_val (fun k hk => ih k (by omega)) h3 h4
        exact ⟨v, hv.keep (Nat.le_refl _) (by omega) (Keeps.refl _ _)⟩
      obtain ⟨c, ks, e1, hr1⟩ := open_row (k := 3) (bytes := 48) (L := Great) Tryz.underlying33 (by kernel_rfl) (by omega) (by kernel_rfl) (by decide) (by omega) f1 hw1 (RVal Great 0 W (RMsg Great 0 W (n + 1))) hv
      obtain ⟨d, vs, e2, hr2⟩ := open_row (k := 3) (bytes := 48) (L := Great) Tryz.underlying33 (by kernel_rfl) (by omega) (by kernel_rfl) (by decide) (by omega) f2 hw2 (RVal Great 0 W (RMsg Great 0 W (n + 1))) hv
      cases e1
      cases e2
      exact ⟨⟨i, ks, vs⟩, _, _, rfl, (int_wf h0).1, (int_wf h0).2, hr1, hr2⟩
theorem open_msg : ∀ fuel, OpenMsg W spare held enc fuel := by
  intro fuel
  induction fuel using Nat.strongRecOn with
  | _ fuel ih =>
  intro cs x h hw
  obtain ⟨xs, n, rfl, rfl, hl, hlen, hf⟩ := DataW.trod_struct Tryz.underlying28 h
  have hl1 : cs.length = 1 := by rw [hl]; kernel_rfl
  match cs, hl1 with
  | [c0], _ =>
    match xs, hlen with
    | [y0], _ =>
      have f0 : DataW.trod enc Tryz.prog W 0 spare held n 26 (([c0].drop 0).take (Tryz.prog.cellsOf 26)) = some y0 := hf 0 _ rfl
      rw [show Tryz.prog.cellsOf 26 = 1 by kernel_rfl] at f0
      simp only [List.drop_zero, List.take_succ_cons, List.take_zero] at f0
      have hw0 : ∀ z ∈ y0.1.weights Tryz.prog 26, z ≤ reachBytes := fun z hz => hw z (by
        simp only [DataW.weights, Tryz.underlying28, List.map_cons, List.map_nil]
        exact DataW.weights_mem_each (j := 0) rfl rfl z hz)
      obtain ⟨c, fs, e0, hr⟩ := open_row (k := 3) (bytes := 56) (L := Great) Tryz.underlying26 (by kernel_rfl) (by omega) (by kernel_rfl) (by decide) (by omega) f0 hw0 (RSlot Great 0 W (RMsg Great 0 W n)) fun n' cs' y hn h3 h4 => by
        obtain ⟨s, hs⟩ := open_slot (fun k hk => ih k (by omega)) h3 h4
        exact ⟨s, hs.keep (Nat.le_refl _) (by omega) (Keeps.refl _ _)⟩
      cases e0
      exact ⟨.mk fs, _, rfl, hr⟩
end
end Go.Proofs.YthikfifoomfjgaaGreat
namespace Go.Tr
open Go.RowKit
/-- A block of three cells. -/
def Box3 (k : Nat) (w : World) (c0 c1 c2 : Value) : Prop := k < w.heap.size ∧ w.cell? ⟨k, 0, none⟩ = some c0 ∧ w.cell? ⟨k, 1, none⟩ = some c1 ∧ w.cell? ⟨k, 2, none⟩ = some c2
theorem Box3.below {k : Nat} {w w' : World} {c0 c1 c2 : Value} (h : Box3 k w c0 c1 c2) (hb : Below w.heap.size w w') : Box3 k w' c0 c1 c2 :=
  ⟨Nat.lt_of_lt_of_le h.1 hb.size, (hb.cell (p := ⟨k, 0, none⟩) h.1).trans h.2.1, (hb.cell (p := ⟨k, 1, none⟩) h.1).trans h.2.2.1, (hb.cell (p := ⟨k, 2, none⟩) h.1).trans h.2.2.2⟩
theorem Box3.new (w : World) (c0 c1 c2 : Value) (t : TypeId) : Box3 w.heap.size (w.alloc (.cells #[c0, c1, c2] t)) c0 c1 c2 := by
  refine ⟨by simp, ?_, ?_, ?_⟩ <;> simp [go_sem]
/-- A block of one cell. -/
def Box1 (k : Nat) (w : World) (c : Value) : Prop := k < w.heap.size ∧ w.cell? ⟨k, 0, none⟩ = some c
theorem Box1.below {k : Nat} {w w' : World} {c : Value} (h : Box1 k w c) (hb : Below w.heap.size w w') : Box1 k w' c :=
  ⟨Nat.lt_of_lt_of_le h.1 hb.size, (hb.cell (p := ⟨k, 0, none⟩) h.1).trans h.2⟩
theorem Box1.new (w : World) (c : Value) (t : TypeId) : Box1 w.heap.size (w.alloc (.cells #[c] t)) c := by
  refine ⟨by simp, ?_⟩; simp [go_sem]
end Go.Tr
