/- Plain facts on a map that counts, and from which what came once is struck: table.unique's. No program is named here. -/
import Derived.Maps.OwnSet
import Derived.Maps.Ext
namespace Go.Uniq
open Go Go.Maps
variable {κ : Type} [DecidableEq κ]
/-- Keys that read as literals of their own. -/
structure KeyFn (key : κ → Lit) : Prop where
  inj : ∀ x y, key x = key y → x = y
  isKey : ∀ x, WideAt.IsKeyLit (key x)
abbrev num (n : Nat) : DataW Unit := .lit (.int .i64 n)
/-- How often an element comes. -/
def cnt (l : List κ) (x : κ) : Nat := l.count x
theorem cnt_le (l : List κ) (x : κ) : cnt l x ≤ l.length := List.count_le_length
/-- The map counts the list's elements. -/
def Cnt (key : κ → Lit) (l : List κ) (D : DataW Unit) : Prop :=
  (∀ x, has D (key x) = decide (x ∈ l)) ∧ (∀ x, D.atKey (key x) (num 0) = num (cnt l x)) ∧ ∀ k, has D k = true → ∃ x, key x = k
theorem Cnt.nil (key : κ → Lit) : Cnt key [] (.map []) := ⟨fun x => by simp [has], fun x => by simp [DataW.atKey, cnt], fun k h => by simp [has] at h⟩
theorem Cnt.snoc {key : κ → Lit} (hK : KeyFn key) {l : List κ} {D : DataW Unit} (h : Cnt key l D) (hm : IsMap D) (x : κ) : Cnt key (l ++ [x]) (D.put (key x) (num (cnt l x + 1))) := by
  unfold Cnt at *
  simp only [cnt] at *
  refine ⟨fun y => ?_, fun y => ?_, fun k hk => ?_⟩
  · by_cases e : y = x
    · subst e
      rw [has_put_same hm (hK.isKey y)]
      simp
    · rw [has_put_other (fun he => e (hK.inj _ _ he)), h.1]
      simp [e]
  · by_cases e : y = x
    · subst e
      rw [atKey_put_same hm (hK.isKey y)]
      simp
    · rw [atKey_put_other (fun he => e (hK.inj _ _ he)), h.2.1, List.count_append, List.count_singleton]
      simp [Ne.symm e]
  · by_cases e : k = key x
    · exact ⟨x, e.symm⟩
    · rw [has_put_other e] at hk
      exact h.2.2 k hk
/-- Of the first j elements those that came once are struck. -/
def Left (key : κ → Lit) (l : List κ) (j : Nat) (D : DataW Unit) : Prop :=
  (∀ x, has D (key x) = decide (x ∈ l ∧ (cnt l x = 1 → x ∉ l.take j))) ∧ (∀ x, has D (key x) = true → D.atKey (key x) (num 0) = num (cnt l x)) ∧ ∀ k, has D k = true → ∃ x, key x = k
theorem Cnt.left {key : κ → Lit} {l : List κ} {D : DataW Unit} (h : Cnt key l D) : Left key l 0 D := ⟨fun x => by rw [h.1]; simp, fun x _ => h.2.1 x, h.2.2⟩
omit [DecidableEq κ] in
theorem mem_take_succ {l : List κ} {j : Nat} (hj : j < l.length) (x : κ) : x ∈ l.take (j + 1) ↔ x ∈ l.take j ∨ x = l[j] := by
  rw [List.take_succ_eq_append_getElem hj, List.mem_append, List.mem_singleton]
/-- An element that comes once does not come earlier. -/
theorem once {l : List κ} {j : Nat} (hj : j < l.length) (hc : cnt l l[j] = 1) : l[j] ∉ l.take j := by
  unfold cnt at hc
  intro hm
  have h1 : 1 ≤ (l.take j).count l[j] := List.count_pos_iff.2 hm
  have h2 : l.count l[j] = (l.take j).count l[j] + (l.drop j).count l[j] := by rw [← List.count_append, List.take_append_drop]
  have h3 : 1 ≤ (l.drop j).count l[j] := List.count_pos_iff.2 (by rw [List.drop_eq_getElem_cons hj]; exact List.mem_cons_self)
  omega
theorem Left.here {key : κ → Lit} {l : List κ} {j : Nat} {D : DataW Unit} (h : Left key l j D) (hj : j < l.length) : D.atKey (key l[j]) (num 0) = num (cnt l l[j]) := by
  refine h.2.1 _ ?_
  rw [h.1]
  simp only [decide_eq_true_eq]
  exact ⟨List.getElem_mem hj, fun hc => once hj hc⟩
theorem Left.strike {key : κ → Lit} (hK : KeyFn key) {l : List κ} {j : Nat} {D : DataW Unit} (h : Left key l j D) (hj : j < l.length) (hc : cnt l l[j] = 1) : Left key l (j + 1) (D.del (key l[j])) := by
  refine ⟨fun y => ?_, fun y hy => ?_, fun k hk => ?_⟩
  · by_cases e : y = l[j]
    · subst e
      rw [has_del_same]
      symm
      simp only [decide_eq_false_iff_not]
      rintro ⟨_, h2⟩
      exact h2 hc ((mem_take_succ hj _).2 (.inr rfl))
    · rw [has_del_other (fun he => e (hK.inj _ _ he)), h.1]
      congr 1
      rw [mem_take_succ hj]
      simp [e]
  · by_cases e : y = l[j]
    · subst e
      rw [has_del_same] at hy
      cases hy
    · rw [has_del_other (fun he => e (hK.inj _ _ he))] at hy
      rw [atKey_del_other (fun he => e (hK.inj _ _ he)), h.2.1 y hy]
  · by_cases e : k = key l[j]
    · exact ⟨_, e.symm⟩
    · rw [has_del_other e] at hk
      exact h.2.2 k hk
theorem Left.keep {key : κ → Lit} {l : List κ} {j : Nat} {D : DataW Unit} (h : Left key l j D) (hj : j < l.length) (hc : cnt l l[j] ≠ 1) : Left key l (j + 1) D := by
  refine ⟨fun y => ?_, h.2.1, h.2.2⟩
  rw [h.1]
  congr 1
  rw [mem_take_succ hj, eq_iff_iff]
  constructor
  · rintro ⟨h1, h2⟩
    refine ⟨h1, fun hy => ?_⟩
    rintro (h3 | rfl)
    · exact h2 hy h3
    · exact hc hy
  · rintro ⟨h1, h2⟩
    exact ⟨h1, fun hy h3 => h2 hy (.inl h3)⟩
theorem size_zero {D : DataW Unit} (ht : Canon D) : size D = 0 ↔ ∀ k, has D k = false := by
  obtain ⟨es, rfl, -, hp⟩ := ht
  rw [size_eq]
  constructor
  · intro h k
    have : es = [] := List.eq_nil_of_length_eq_zero h
    subst this
    rfl
  · intro h
    cases es with
    | nil => rfl
    | cons p es =>
      exfalso
      have h1 := h p.1
      rw [has_eq] at h1
      simp [WideAt.sameKey_self (hp p List.mem_cons_self)] at h1
theorem Left.ended {key : κ → Lit} {l : List κ} {D : DataW Unit} (h : Left key l l.length D) (hz : size D = 0 ↔ ∀ k, has D k = false) : size D = 0 ↔ l.Nodup := by
  unfold Left at h
  simp only [cnt] at h
  rw [hz, List.nodup_iff_count]
  constructor
  · intro h0 x
    by_cases hx : x ∈ l
    · have h1 := h0 (key x)
      rw [h.1] at h1
      simp only [List.take_length, decide_eq_false_iff_not] at h1
      by_cases hc : l.count x = 1
      · omega
      · exact absurd ⟨hx, fun hc' => absurd hc' hc⟩ h1
    · rw [List.count_eq_zero_of_not_mem hx]; omega
  · intro hn k
    cases hk : has D k with
    | false => rfl
    | true =>
      exfalso
      obtain ⟨x, rfl⟩ := h.2.2 k hk
      rw [h.1] at hk
      simp only [List.take_length, decide_eq_true_eq] at hk
      have h1 : 1 ≤ l.count x := List.count_pos_iff.2 hk.1
      have h2 := hn x
      exact hk.2 (by omega) hk.1
theorem num_inj {D : DataW Unit} {k : Lit} {c : Int} {n : Nat} (h : D.atKey k (.lit (.int .i64 0)) = .lit (.int .i64 c)) (h' : D.atKey k (num 0) = num n) : c = n := by
  have h2 : (DataW.lit (.int .i64 c) : DataW Unit) = .lit (.int .i64 n) := h.symm.trans h'
  injection h2 with h3
  injection h3 with _ h4
end Go.Uniq
