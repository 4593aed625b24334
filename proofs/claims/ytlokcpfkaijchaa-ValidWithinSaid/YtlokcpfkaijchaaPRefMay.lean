/- A schema that may be, as the document says, may be, as table says: in plain Lean. -/
import Derived.Test.YtlokcpfkaijchaaGRefMay
import Derived.Test.YtlokcpfkaijchaaPMay
namespace Go.Proofs.Ytlokcpfkaijchaa.PA
open Go.RowKit Go.Proofs.YtlokcpfkaijchaaW.PrintWords Go.Proofs.YtlokcpfkaijchaaW.PrintLast Go.Proofs.YtlokcpfkaijchaaW.PrintMore
set_option linter.unusedVariables false
set_option linter.unusedSimpArgs false
theorem keyed_same (k : Int) : truffleref08_keyed.f k = table_keyed.f k := by
  unfold truffleref08_keyed.f table_keyed.f
  by_cases h : 0 ≤ k ∧ k ≤ 8
  · obtain ⟨h0, h1⟩ := h
    have : k = 0 ∨ k = 1 ∨ k = 2 ∨ k = 3 ∨ k = 4 ∨ k = 5 ∨ k = 6 ∨ k = 7 ∨ k = 8 := by omega
    rcases this with rfl | rfl | rfl | rfl | rfl | rfl | rfl | rfl | rfl <;> decide
  · rw [if_neg (by omega), if_neg (by omega), if_neg (by omega), if_neg (by omega), if_neg (by omega), if_neg (by omega)]
    by_cases c : k ≥ 0
    · rw [if_pos c, if_neg (by omega)]
      congr 1
      simp; omega
    · rw [if_neg c]
      congr 1
      simp; omega
theorem number_same (k : Int) : truffleref08_number.f k = table_number.f k := by
  unfold truffleref08_number.f table_number.f
  by_cases c1 : k ≥ 1
  · rw [if_pos c1, if_pos c1]
    by_cases c2 : k ≤ 536870911
    · rw [if_pos c2, if_pos c2]
      by_cases c3 : k ≥ 19000
      · rw [if_pos c3, if_neg (by omega)]
        congr 1
        by_cases c4 : k ≤ 19999
        · rw [decide_eq_true c4, decide_eq_false (by omega)]; rfl
        · rw [decide_eq_false c4, decide_eq_true (by omega)]; rfl
      · rw [if_neg c3, if_pos (by omega)]; rfl
    · rw [if_neg c2, if_neg c2]
  · rw [if_neg c1, if_neg c1]
/-- What a field that may be is like. -/
theorem field_facts (M : List S77) (E : List S81) (f : S38) (hM : M.length ≤ 1000) (hE : E.length ≤ 1000) (h : fieldMayB M E f = true) :
    table_number.f f.f0 = some true ∧ 0 ≤ f.f2 ∧ f.f2 ≤ 9 ∧ 0 ≤ f.f6 ∧ f.f6 ≤ 30 ∧ 0 ≤ f.f3 ∧ (f.f2 = 9 → f.f3 ≤ (M.length : Int) - 1) ∧ (f.f2 = 6 → f.f3 ≤ (E.length : Int) - 1) ∧ (f.f2 ≠ 9 → f.f2 ≠ 6 → f.f3 ≤ 0) ∧
      (f.f5 = -1 ∨ table_keyed.f f.f5 = some true ∧ f.f4 = false) ∧ (f.f6 = 0 ∨ f.f4 = false ∧ f.f5 = -1) := by
  have hi := fieldMay_is M E f
  rw [h] at hi
  unfold truffleref08_fieldMay.f at hi
  rw [number_same] at hi
  obtain ⟨b, hb⟩ := number_total f.f0
  rw [hb, Option.bind_some] at hi
  have J : ∀ k x y0 y1 y2 y3 y4 y5 y6, truffleref08_fieldMay.j3 (k + 1) x y0 y1 y2 y3 y4 y5 y6 = some true → x = false ∧ (y5 = -1 ∨ table_keyed.f y5 = some true ∧ y4 = false) ∧ (y6 = 0 ∨ y4 = false ∧ y5 = -1) := by
    intro k x y0 y1 y2 y3 y4 y5 y6 h
    rw [truffleref08_fieldMay.j3] at h
    split at h
    · cases h
    · rename_i hx
      refine ⟨by simpa using hx, ?_⟩
      split at h
      · rename_i h5
        refine ⟨Or.inl h5, ?_⟩
        split at h
        · rename_i h6; exact Or.inl h6
        · split at h
          · cases h
          · rename_i h4; exact Or.inr ⟨by simpa using h4, h5⟩
      · rename_i h5
        rw [keyed_same] at h
        obtain ⟨b, hb⟩ := keyed_total y5
        rw [hb, Option.bind_some] at h
        split at h
        · rename_i hb1
          subst hb1
          split at h
          · cases h
          · rename_i h4
            refine ⟨Or.inr ⟨hb, by simpa using h4⟩, ?_⟩
            split at h
            · rename_i h6; exact Or.inl h6
            · have := Option.some.inj h
              exact absurd (by simpa using this) h5
        · cases h
  have key : ∀ x, truffleref08_fieldMay.j0 10 x M E f.f0 f.f1 f.f2 f.f3 f.f4 f.f5 f.f6 = some true → x = false ∧ 0 ≤ f.f3 ∧ (f.f2 = 9 → f.f3 ≤ (M.length : Int) - 1) ∧ (f.f2 = 6 → f.f3 ≤ (E.length : Int) - 1) ∧ (f.f2 ≠ 9 → f.f2 ≠ 6 → f.f3 ≤ 0) ∧
      (f.f5 = -1 ∨ table_keyed.f f.f5 = some true ∧ f.f4 = false) ∧ (f.f6 = 0 ∨ f.f4 = false ∧ f.f5 = -1) := by
    intro x h
    rw [truffleref08_fieldMay.j0] at h
    split at h
    · cases h
    · rename_i hx
      refine ⟨by simpa using hx, ?_⟩
      have j2 : ∀ most, truffleref08_fieldMay.j2 8 most f.f0 f.f1 f.f2 f.f3 f.f4 f.f5 f.f6 = some true → 0 ≤ f.f3 ∧ f.f3 ≤ most ∧ (f.f5 = -1 ∨ table_keyed.f f.f5 = some true ∧ f.f4 = false) ∧ (f.f6 = 0 ∨ f.f4 = false ∧ f.f5 = -1) := by
        intro most h
        rw [truffleref08_fieldMay.j2] at h
        split at h
        · have := (J _ _ _ _ _ _ _ _ _ h).1
          cases this
        · rename_i h3
          obtain ⟨a, b, c⟩ := J _ _ _ _ _ _ _ _ _ h
          have := of_decide_eq_false a
          exact ⟨by omega, by omega, b, c⟩
      split at h
      · rename_i h9
        rw [truffleref08_fieldMay.j1, if_neg (by omega)] at h
        obtain ⟨a, b, c⟩ := j2 _ h
        rw [IntWalk.wrap64_in _ (by omega)] at b
        exact ⟨a, fun _ => b, fun h => by omega, fun h => absurd h9 h, c⟩
      · rename_i h9
        rw [truffleref08_fieldMay.j1] at h
        split at h
        · rename_i h6
          obtain ⟨a, b, c⟩ := j2 _ h
          rw [IntWalk.wrap64_in _ (by omega)] at b
          exact ⟨a, fun h => absurd h h9, fun _ => b, fun _ h => absurd h6 h, c⟩
        · rename_i h6
          obtain ⟨a, b, c⟩ := j2 _ h
          exact ⟨a, fun h => absurd h h9, fun h => absurd h h6, fun _ _ => b, c⟩
  have nope : ¬ truffleref08_fieldMay.j0 10 true M E f.f0 f.f1 f.f2 f.f3 f.f4 f.f5 f.f6 = some true := fun h => by
    have := (key _ h).1
    cases this
  split at hi
  · rename_i hb1
    subst hb1
    split at hi
    · exact absurd hi nope
    · rename_i k1
      split at hi
      · exact absurd hi nope
      · rename_i k2
        split at hi
        · exact absurd hi nope
        · rename_i k3
          obtain ⟨a, b⟩ := key _ hi
          have := of_decide_eq_false a
          exact ⟨hb, by omega, by omega, by omega, by omega, b⟩
  · exact absurd hi nope
theorem in_true {a b c : Int} (h1 : b ≤ a) (h2 : a ≤ c) : table_in.f a b c = some true := by
  unfold table_in.f
  rw [if_pos h1, decide_eq_true h2]
theorem field_ok (M : List S77) (E : List S81) (f : S38) (hM : M.length ≤ 1000) (hE : E.length ≤ 1000) (h : fieldMayB M E f = true) : fieldOk M E f = some true := by
  obtain ⟨k0, k1, k2, k3, k4, k5, k6, k7, k8, k9, k10⟩ := field_facts M E f hM hE h
  have J1 : ∀ k x6, (x6 = true → f.f6 = 0) → table_field.j1 (k + 1) true x6 f.f0 f.f1 f.f2 f.f3 f.f4 f.f5 f.f6 = some true := by
    intro k x6 hx
    rw [table_field.j1, k0, in_true k1 k2, in_true k3 k4]
    simp only [Option.bind_some, if_true]
    rcases k9 with k9 | ⟨k9, k9'⟩
    · rw [if_pos k9]
      split
      · rfl
      · rename_i h6
        cases x6 with
        | false => rfl
        | true => exact absurd (hx rfl) h6
    · by_cases h5 : f.f5 = -1
      · rw [if_pos h5]
        split
        · rfl
        · rename_i h6
          cases x6 with
          | false => rfl
          | true => exact absurd (hx rfl) h6
      · rw [if_neg h5, k9, Option.bind_some, if_pos rfl, k9', if_neg (by decide)]
        split
        · rfl
        · rename_i h6
          cases x6 with
          | false => rfl
          | true => exact absurd (hx rfl) h6
  have J0 : ∀ k, table_field.j0 (k + 2) true f.f0 f.f1 f.f2 f.f3 f.f4 f.f5 f.f6 = some true := by
    intro k
    rw [table_field.j0]
    split
    · rename_i h4
      refine J1 k true fun _ => ?_
      rcases k10 with h | ⟨h, -⟩
      · exact h
      · rw [h] at h4; cases h4
    · refine J1 k _ fun h => ?_
      have h5 : f.f5 ≠ -1 := by simpa using h
      rcases k10 with h | ⟨-, h⟩
      · exact h
      · exact absurd h h5
  unfold fieldOk table_field.f
  split
  · rename_i h9
    rw [in_true k5 (by rw [IntWalk.wrap64_in _ (by omega)]; exact k6 h9), Option.bind_some]
    exact J0 3
  · rename_i h9
    split
    · rename_i h6
      rw [in_true k5 (by rw [IntWalk.wrap64_in _ (by omega)]; exact k7 h6), Option.bind_some]
      exact J0 3
    · rename_i h6
      have : (f.f3 == 0) = true := by have := k8 h9 h6; simp; omega
      rw [this]
      exact J0 3
theorem number_pos {k : Int} (h : table_number.f k = some true) : 1 ≤ k := by
  unfold table_number.f at h
  split at h
  · omega
  · cases h
theorem run_ok (M : List S77) (E : List S81) (hM : M.length ≤ 1000) (hE : E.length ≤ 1000) : ∀ (l : List S38) (last : Int), (∀ x ∈ l, fieldMayB M E x = true ∧ last < x.f0) → l.Pairwise (fun a b => a.f0 < b.f0) → msgRun M E l last = some true := by
  intro l
  induction l with
  | nil => intro last _ _; rfl
  | cons x r ih =>
    intro last h hp
    obtain ⟨h1, h2⟩ := h x (by simp)
    rw [List.pairwise_cons] at hp
    rw [msgRun, field_ok M E x hM hE h1, Option.bind_some, if_pos rfl, if_neg (by omega)]
    exact ih x.f0 (fun y hy => ⟨(h y (by simp [hy])).1, hp.1 y hy⟩) hp.2
theorem part_pair {M : List S77} {E : List S81} {l : List S38} (h : PartM M E l l.length) : l.Pairwise (fun a b => a.f0 < b.f0 ∧ a.f1 ≠ b.f1) := by
  rw [List.pairwise_iff_getElem]
  intro i j hi hj hij
  exact (h j l[j] hj (List.getElem?_eq_getElem hj)).2 i l[i] hij (List.getElem?_eq_getElem hi)
theorem message_ok (M : List S77) (E : List S81) (hM : M.length ≤ 1000) (hE : E.length ≤ 1000) (m : S77) (h : MsgOk M E m.f1) : messageF M E m = some true := by
  obtain ⟨h1, h2⟩ := h
  have hp := part_pair h2
  unfold messageF
  rw [run_ok M E hM hE m.f1 0 (fun x hx => ?_) (hp.imp fun h => h.1), Option.bind_some]
  · have hn : (m.f1.map (·.f1)).Nodup := by
      unfold List.Nodup
      rw [List.pairwise_map]
      exact hp.imp fun h => h.2
    rw [decide_eq_true h1, decide_eq_true hn]
    rfl
  · obtain ⟨i, hi, rfl⟩ := List.mem_iff_getElem.1 hx
    have hf := (h2 i m.f1[i] hi (List.getElem?_eq_getElem hi)).1
    exact ⟨hf, by have := number_pos (field_facts M E _ hM hE hf).1; omega⟩
theorem all_ok (M : List S77) (E : List S81) (hM : M.length ≤ 1000) (hE : E.length ≤ 1000) : ∀ l : List S77, (∀ m ∈ l, MsgOk M E m.f1) → allM M E l = some true
  | [], _ => rfl
  | m :: r, h => by
    rw [allM, message_ok M E hM hE m (h m (by simp)), Option.bind_some, if_pos rfl]
    exact all_ok M E hM hE r fun x hx => h x (by simp [hx])
theorem nodup_take {α : Type} {l : List α} (h : ∀ i s, i < l.length → l[i]? = some s → s ∉ l.take i) : l.Nodup := by
  unfold List.Nodup
  rw [List.pairwise_iff_getElem]
  intro i j hi hj hij e
  refine h j l[j] hj (List.getElem?_eq_getElem hj) ?_
  rw [← e, List.mem_take_iff_getElem]
  exact ⟨i, by omega, rfl⟩
theorem enum_ok (e : S81) (h : EnumOk e.f1 e.f2) : enumB e = true := by
  obtain ⟨h1, h2, h3, h4, h5⟩ := h
  have e2 : ∀ i (h : i < e.f2.length), _ := fun i h => h5 i (e.f1[i]'(by omega)) e.f2[i] (by omega) (List.getElem?_eq_getElem (by omega)) (List.getElem?_eq_getElem h)
  have n1 : e.f1.Nodup := nodup_take fun i s hi hs => (h5 i s (e.f2[i]'(by omega)) hi hs (List.getElem?_eq_getElem (by omega))).1
  have n2 : e.f2.Nodup := by
    unfold List.Nodup
    rw [List.pairwise_iff_getElem]
    intro i j hi hj hij
    exact (e2 j hj).2.2.2 i e.f2[i] hij (List.getElem?_eq_getElem hi)
  have n3 : e.f2.any wideB = false := by
    rw [List.any_eq_false]
    intro x hx
    obtain ⟨i, hi, rfl⟩ := List.mem_iff_getElem.1 hx
    have := e2 i hi
    unfold wideB
    rw [decide_eq_false (by omega), decide_eq_false (by omega)]
    decide
  have n4 : e.f2.getD 0 0 = 0 := by rw [List.getD_eq_getElem?_getD, h4]; rfl
  unfold enumB
  rw [decide_eq_true (p := 1 ≤ e.f1.length ∧ e.f1.length ≤ 30) ⟨h1, h2⟩, decide_eq_true h3, decide_eq_true n1, decide_eq_true n2, decide_eq_true n4, n3]
  rfl
theorem plain_typed : ∀ s ∈ plainNames, (typeB s).2 = true := by decide +kernel
theorem plain_nodup : plainNames.Nodup := by decide +kernel
theorem may_ok (M : List S77) (E : List S81) (h : RefMay M E) (hs : okSchema M E = true) : table_May.f M E = some true := by
  obtain ⟨h1, h2, h3, h4, h5, h6⟩ := h
  unfold table_May.f mayF
  have hf : fewB M E = true := by
    unfold fewB
    rw [decide_eq_true (p := 1 ≤ M.length ∧ M.length ≤ 20) ⟨h1, h2⟩, decide_eq_true h3]
    rfl
  have hl : (M.map (·.f0) ++ E.map (·.f0)).length = M.length + E.length := by simp
  have hn : (plainNames ++ (M.map (·.f0) ++ E.map (·.f0))).Nodup := by
    rw [List.nodup_append]
    refine ⟨plain_nodup, nodup_take fun i s hi hs => (h6 i s (by omega) hs).2, fun a ha b hb e => ?_⟩
    subst e
    obtain ⟨i, hi, rfl⟩ := List.mem_iff_getElem.1 hb
    have := (h6 i _ (by omega) (List.getElem?_eq_getElem hi)).1
    rw [plain_typed _ ha] at this
    cases this
  have hE : E.all enumB = true := by
    rw [List.all_eq_true]
    exact fun e he => enum_ok e (h5 e he)
  rw [if_pos hs, if_pos hf, all_ok M E (by omega) (by omega) M h4, Option.bind_some, hE, decide_eq_true hn]
  rfl
end Go.Proofs.Ytlokcpfkaijchaa.PA
