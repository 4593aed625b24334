/- What an argument's reading tells of memory, for rows of structs: generic. -/
import Derived.Test.YtlokcpfkaijchaaPAx0
import Derived.SizedLaws
import Derived.ChangeArms
import Derived.ChangeSame
import Derived.Deep.Strs
namespace Go.Tr
set_option linter.unusedVariables false
set_option linter.unusedSimpArgs false
def RowOf {α : Type} (L B : Nat) (w : World) (k : Nat) (R : List Value → α → Prop) (v : Value) (xs : List α) : Prop :=
  ∃ (a : Option Addr) (cap : Nat), v = .slice a xs.length cap ∧ xs.length ≤ L ∧ xs.length ≤ cap ∧ cap ≤ maxLen ∧ (a = none → cap = 0) ∧
    (xs ≠ [] → ∃ b off, a = some ⟨b, off, none⟩ ∧ B ≤ b ∧ ∀ i (h : i < xs.length), ∃ cs, cs.length = k ∧ (∀ j u, cs[j]? = some u → w.cell? ⟨b, off + i * k + j, none⟩ = some u) ∧ R cs xs[i])
section
variable {H : Type} {enc : TypeId × Value → H} {P : Program} {W : World} {spare : Nat → Bool} {held : Bool}
theorem cells_at {a : Addr} {n : Nat} {cs : List Value} (h : W.cells? 0 a n = some cs) : cs.length = n ∧ ∀ j u, cs[j]? = some u → W.cell? (a.add j) = some u := by
  unfold World.cells? at h
  rw [if_pos (Nat.zero_le _)] at h
  have hl := mapM_some_length h
  simp only [List.length_range] at hl
  refine ⟨hl, fun j u hu => ?_⟩
  have hj : j < n := by rw [← hl]; exact (List.getElem?_eq_some_iff.1 hu).1
  have := mapM_some_get h j j (by simp [hj])
  rw [this, hu]
theorem add_none (b off i : Nat) : (⟨b, off, none⟩ : Addr).add i = ⟨b, off + i, none⟩ := by unfold Addr.add; split <;> simp_all
/-- A slice's reading, as a row of what its elements read as. -/
theorem open_row {α : Type} {t e : TypeId} {k bytes L : Nat} (ht : P.underlying t = some (.slice e)) (hk : P.cellsOf e = k) (hk0 : 0 < k) (hb : P.bytesOf e = bytes) (hL : reachBytes ≤ L * bytes) (hb0 : 0 < bytes) {fuel : Nat} {cs : List Value} {x : DataW H × List MemPlace}
    (h : DataW.trod enc P W 0 spare held fuel t cs = some x) (hw : ∀ z ∈ x.1.weights P t, z ≤ reachBytes) (R : List Value → α → Prop)
    (hR : ∀ n cs' y, n < fuel → DataW.trod enc P W 0 spare held n e cs' = some y → (∀ z ∈ y.1.weights P e, z ≤ reachBytes) → ∃ a, R cs' a) : ∃ (c : Value) (xs : List α), cs = [c] ∧ RowOf L 0 W k R c xs := by
  rcases DataW.trod_slice ht h with ⟨rfl, rfl⟩ | ⟨a, len, cap, elems, rest, n, rfl, rfl, rfl, -, hl, hm, hlen, hel, -, -⟩
  · exact ⟨_, [], rfl, none, 0, rfl, by simp, by simp, by simp, by simp, by simp⟩
  · have hwe : (elems.length + rest.length) * bytes ≤ reachBytes := by
      have := hw ((elems.length + rest.length) * bytes) (by simp [DataW.weights, ht, hb])
      exact this
    have hin : ∀ y ∈ elems, ∀ z ∈ y.1.weights P e, z ≤ reachBytes := fun y hy z hz => hw z (by
      simp only [DataW.weights, ht, List.mem_cons, List.mem_append]
      refine .inr (.inl ?_)
      have hm : ∀ (l : List (DataW H)), y.1 ∈ l → z ∈ DataW.weightsAll P e l := by
        intro l hl
        induction l with
        | nil => simp at hl
        | cons d r ih =>
          simp only [DataW.weightsAll, List.mem_append]
          rcases List.mem_cons.1 hl with rfl | hl
          · exact .inl hz
          · exact .inr (ih hl)
      exact hm _ (List.mem_map_of_mem hy))
    have hex : ∀ i, i < len → ∃ cs' x, W.cells? 0 (a.add (i * k)) k = some cs' ∧ R cs' x := fun i hi => by
      have h1 := hel i hi
      rw [List.getElem?_eq_getElem (by omega), hk] at h1
      obtain ⟨cs', h2, h3⟩ := Option.bind_eq_some_iff.1 h1
      obtain ⟨x, hx⟩ := hR n cs' _ (by omega) h3 (hin _ (List.getElem_mem (by omega)))
      exact ⟨cs', x, h2, hx⟩
    have hch : ∃ xs : List α, xs.length = len ∧ ∀ i (hi : i < xs.length), ∃ cs', W.cells? 0 (a.add (i * k)) k = some cs' ∧ R cs' xs[i] := by
      have : ∀ m, m ≤ len → ∃ xs : List α, xs.length = m ∧ ∀ i (hi : i < xs.length), ∃ cs', W.cells? 0 (a.add (i * k)) k = some cs' ∧ R cs' xs[i] := by
        intro m
        induction m with
        | zero => exact fun _ => ⟨[], rfl, fun i hi => by simp at hi⟩
        | succ m ih =>
          intro hm
          obtain ⟨xs, h1, h2⟩ := ih (by omega)
          obtain ⟨cs', x, h3, h4⟩ := hex m (by omega)
          refine ⟨xs ++ [x], by simp [h1], fun i hi => ?_⟩
          rcases Nat.lt_or_ge i xs.length with h | h
          · rw [List.getElem_append_left h]; exact h2 i h
          · have : i = m := by simp at hi; omega
            subst this
            rw [List.getElem_append_right (by omega)]
            exact ⟨cs', h3, by simpa using h4⟩
      exact this len (Nat.le_refl _)
    obtain ⟨xs, hxl, hxs⟩ := hch
    refine ⟨_, xs, rfl, some a, cap, by rw [hxl], ?_, by omega, hm, by simp, fun hne => ?_⟩
    · rw [hxl, ← hlen]
      have h1 : elems.length * bytes ≤ L * bytes := Nat.le_trans (Nat.mul_le_mul_right _ (Nat.le_add_right _ _)) (Nat.le_trans hwe hL)
      exact Nat.le_of_mul_le_mul_right h1 hb0
    · have h0 : 0 < xs.length := List.length_pos_iff.2 hne
      obtain ⟨cs0, c1, -⟩ := hxs 0 h0
      obtain ⟨l0, g0⟩ := cells_at c1
      have c0 := g0 0 cs0[0] (by rw [List.getElem?_eq_getElem (by omega)])
      obtain ⟨b, off, spot⟩ := a
      have hs : spot = none := by
        cases spot with
        | none => rfl
        | some s =>
          simp only [Addr.add, World.cell?, Option.isSome_some] at c0
          split at c0 <;> simp at c0
      subst hs
      refine ⟨b, off, rfl, Nat.zero_le _, fun i hi => ?_⟩
      obtain ⟨cs', d1, d2⟩ := hxs i hi
      obtain ⟨l1, g1⟩ := cells_at d1
      refine ⟨cs', l1, fun j u hu => ?_, d2⟩
      have := g1 j u hu
      rw [add_none, add_none] at this
      exact this
end
end Go.Tr
namespace Go.Proofs.Ytlokcpfkaijchaa.PA
open Go.RowKit Go.Tr Go.Proofs.YtlokcpfkaijchaaW.PrintWords Go.Proofs.YtlokcpfkaijchaaW.PrintLast Go.Proofs.YtlokcpfkaijchaaW.PrintMore
/-- A row as it was read is one that the contracts ask for. -/
theorem reads_of_row {α : Type} {L B k : Nat} {w : World} {R : List Value → α → Prop} {Rr : α → List Value → Prop} {v : Value} {xs : List α} (h : RowOf L B w k R v xs) (hR : ∀ cs x, R cs x → Rr x cs) :
    ∃ A c, v = .slice A xs.length c ∧ xs.length ≤ c ∧ ReadsRow Rr k w A xs.length xs ∧ xs.length ≤ L := by
  obtain ⟨a, cap, rfl, hL, hc, hm, _, hx⟩ := h
  refine ⟨a, cap, rfl, hc, ⟨rfl, by simp only [maxLen] at hm; omega, fun h0 => ?_⟩, hL⟩
  obtain ⟨b, off, rfl, _, he⟩ := hx (by intro e; rw [e] at h0; exact absurd h0 (by simp))
  refine ⟨_, rfl, fun j p hp => ?_⟩
  obtain ⟨hj, hpe⟩ := List.getElem?_eq_some_iff.1 hp
  obtain ⟨cs, hl, hcell, hr⟩ := he j hj
  rw [hpe] at hr
  refine ⟨cs, hl, hR _ _ hr, fun i u hu => ?_⟩
  have := hcell i u hu
  rw [add_none, ← Nat.add_assoc]
  exact this
end Go.Proofs.Ytlokcpfkaijchaa.PA
