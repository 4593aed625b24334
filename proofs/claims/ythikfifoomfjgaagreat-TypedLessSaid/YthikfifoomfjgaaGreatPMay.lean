/- May a schema be, and is it not too great: both answer; in plain Lean. -/
import Derived.Test.YthikfifoomfjgaaGreatGMay
import Derived.Test.YthikfifoomfjgaaGreatOpenS
import Derived.Test.YthikfifoomfjgaaGreatPAx4
namespace Go.Proofs.YthikfifoomfjgaaGreat.PA
open Go.RowKit Go.Proofs.YthikfifoomfjgaaGreatW.PrintWords Go.Proofs.YthikfifoomfjgaaGreatW.PrintLast Go.Proofs.YthikfifoomfjgaaGreatW.PrintMore
set_option linter.unusedVariables false
set_option linter.unusedSimpArgs false
def Tot {α : Type} (o : Option α) : Prop := ∃ r, o = some r
theorem Tot.some {α : Type} (r : α) : Tot (some r) := ⟨r, rfl⟩
theorem Tot.ite {α : Type} {c : Prop} [Decidable c] {a b : Option α} (h1 : Tot a) (h2 : Tot b) : Tot (if c then a else b) := by split; exact h1; exact h2
theorem Tot.bind {α β : Type} {o : Option α} {f : α → Option β} (h1 : Tot o) (h2 : ∀ r, Tot (f r)) : Tot (o.bind f) := by
  obtain ⟨r, rfl⟩ := h1
  exact h2 r
theorem in_total (a b c : Int) : Tot (table_in.f a b c) := by unfold table_in.f; exact Tot.ite (Tot.some _) (Tot.some _)
theorem number_total (a : Int) : Tot (table_number.f a) := by
  unfold table_number.f
  repeat' (first | exact Tot.some _ | apply Tot.ite)
theorem keyed_total (a : Int) : Tot (table_keyed.f a) := by
  unfold table_keyed.f
  repeat' (first | exact Tot.some _ | apply Tot.ite)
theorem field_total (M : List S58) (E : List S79) (f : S47) : Tot (fieldOk M E f) := by
  have j1 : ∀ k x5 x6 y0 y1 y2 y3 y4 y5 y6, Tot (table_field.j1 (k + 1) x5 x6 y0 y1 y2 y3 y4 y5 y6) := by
    intro k x5 x6 y0 y1 y2 y3 y4 y5 y6
    rw [table_field.j1]
    repeat' (first | exact Tot.some _ | exact in_total _ _ _ | exact number_total _ | exact keyed_total _ | apply Tot.ite | (apply Tot.bind; rotate_left; intro _))
  have j0 : ∀ k x5 y0 y1 y2 y3 y4 y5 y6, Tot (table_field.j0 (k + 2) x5 y0 y1 y2 y3 y4 y5 y6) := by
    intro k x5 y0 y1 y2 y3 y4 y5 y6
    rw [table_field.j0]
    exact Tot.ite (j1 _ _ _ _ _ _ _ _ _ _) (j1 _ _ _ _ _ _ _ _ _ _)
  unfold fieldOk table_field.f
  exact Tot.ite (Tot.bind (in_total _ _ _) fun _ => j0 3 _ _ _ _ _ _ _ _) (Tot.ite (Tot.bind (in_total _ _ _) fun _ => j0 3 _ _ _ _ _ _ _ _) (j0 3 _ _ _ _ _ _ _ _))
theorem run_total (M : List S58) (E : List S79) : ∀ (l : List S47) (last : Int), Tot (msgRun M E l last)
  | [], _ => Tot.some _
  | f :: r, last => by
    rw [msgRun]
    exact Tot.bind (field_total M E f) fun _ => Tot.ite (Tot.ite (Tot.some _) (run_total M E r _)) (Tot.some _)
theorem message_total (M : List S58) (E : List S79) (m : S58) : Tot (messageF M E m) := by
  unfold messageF
  exact Tot.bind (run_total M E _ _) fun _ => Tot.some _
theorem all_total (M : List S58) (E : List S79) : ∀ l : List S58, Tot (allM M E l)
  | [] => Tot.some _
  | m :: r => by
    rw [allM]
    exact Tot.bind (message_total M E m) fun _ => Tot.ite (all_total M E r) (Tot.some _)
theorem may_total (M : List S58) (E : List S79) (h : okSchema M E = true) : ∃ r, table_May.f M E = some r := by
  unfold table_May.f mayF
  rw [if_pos h]
  exact Tot.ite (Tot.bind (all_total M E M) fun _ => Tot.some _) (Tot.some _)
/-- A schema that is not too great. -/
def FewP (M : List S58) (E : List S79) : Prop := M.length ≤ 30 ∧ E.length ≤ 30 ∧ (∀ m ∈ M, m.f1.length ≤ 60) ∧ ∀ e ∈ E, e.f1.length ≤ 60 ∧ e.f2.length ≤ 60
theorem ok_names {l : List ByteArray} (h : ∀ s ∈ l, s.size ≤ maxLen) (hl : l.length ≤ 1000000) : okNames l = true := by
  simp only [okNames, Bool.and_eq_true, List.all_eq_true, decide_eq_true_eq]
  exact ⟨fun s hs => by have := h s hs; unfold maxLen at this; omega, hl⟩
theorem ok_nums {l : List Int} (h : ∀ n ∈ l, I64 n) (hl : l.length ≤ 1000000) : okNums l = true := by
  simp only [okNums, Bool.and_eq_true, List.all_eq_true, decide_eq_true_eq]
  exact ⟨fun n hn => h n hn, hl⟩
theorem few_ok {M : List S58} {E : List S79} (h : FewP M E) (hm : ∀ m ∈ M, okM m) (he : ∀ e ∈ E, okE e) : okSchema M E = true := by
  obtain ⟨h1, h2, h3, h4⟩ := h
  simp only [okSchema, Bool.and_eq_true, List.all_eq_true]
  refine ⟨ok_names (fun s hs => ?_) (by simp; omega), ok_names (fun s hs => ?_) (by simp; omega), fun m hm' => ok_names (fun s hs => ?_) ?_, fun e he' => ⟨ok_names (he e he').2.1 (by have := (h4 e he').1; omega), ok_nums (he e he').2.2 (by have := (h4 e he').2; omega)⟩⟩
  · obtain ⟨m, hm', rfl⟩ := List.mem_map.1 hs
    exact (hm m hm').1
  · obtain ⟨e, he', rfl⟩ := List.mem_map.1 hs
    exact (he e he').1
  · obtain ⟨f, hf, rfl⟩ := List.mem_map.1 hs
    exact ((hm m hm').2 f hf).2.2.2.2.2
  · have := h3 m hm'
    simp; omega
theorem few_l1 (M : List S58) (E : List S79) (hE : E.length ≤ 1000) : ∀ (j k : Nat) (b : Bool) (i : Nat), (E.length : Int) - i < j → 1 ≤ j → j ≤ k →
    ∃ r, truffleref08_Few.l1 k b i M E = some r ∧ (r = true → b = true ∧ ∀ n, i ≤ n → n < E.length → (E.getD n z79).f1.length ≤ 60 ∧ (E.getD n z79).f2.length ≤ 60) := by
  intro j
  induction j with
  | zero => intro k b i h h1; omega
  | succ j ih =>
    intro k b i h h1 hk
    obtain ⟨k, rfl⟩ : ∃ m, k = m + 1 := ⟨k - 1, by omega⟩
    rw [truffleref08_Few.l1]
    by_cases c0 : (i : Int) < E.length
    · rw [if_pos c0]
      cases b with
      | false => exact ⟨false, rfl, fun h => by cases h⟩
      | true =>
        rw [if_pos rfl, if_pos (by omega), show wrap64 ((i : Int) + 1) = ((i + 1 : Nat) : Int) by rw [IntWalk.wrap64_in _ (by omega)]; omega]
        have e1 : rd_T79 E (i : Int) = E.getD i z79 := rfl
        rw [e1]
        split
        · rename_i c1
          obtain ⟨r, hr, hh⟩ := ih k (decide (((E.getD i z79).f2.length : Int) ≤ 60)) (i + 1) (by omega) (by omega) (by omega)
          refine ⟨r, hr, fun h => ⟨rfl, fun n hn hl => ?_⟩⟩
          obtain ⟨a, c⟩ := hh h
          rcases Nat.lt_or_eq_of_le hn with hn | rfl
          · exact c n hn hl
          · have := of_decide_eq_true a
            omega
        · rename_i c1
          obtain ⟨r, hr, hh⟩ := ih k false (i + 1) (by omega) (by omega) (by omega)
          exact ⟨r, hr, fun h => absurd (hh h).1 (by decide)⟩
    · rw [if_neg c0]
      exact ⟨b, rfl, fun h => ⟨h, fun n hn hl => by omega⟩⟩
theorem few_l0 (M : List S58) (E : List S79) : ∀ (j k : Nat) (b : Bool) (i : Nat), (b = true → E.length ≤ 30 ∧ M.length ≤ 30 ∧ (M.length : Int) - i < j) → 1 ≤ j → j + 40 ≤ k →
    ∃ r, truffleref08_Few.l0 k b i M E = some r ∧ (r = true → b = true ∧ (∀ n, i ≤ n → n < M.length → (M.getD n z58).f1.length ≤ 60) ∧ ∀ n, n < E.length → (E.getD n z79).f1.length ≤ 60 ∧ (E.getD n z79).f2.length ≤ 60) := by
  have J : ∀ (k : Nat) (b : Bool), (b = true → E.length ≤ 30) → 40 ≤ k → ∃ r, truffleref08_Few.j2 k b M E = some r ∧ (r = true → b = true ∧ ∀ n, n < E.length → (E.getD n z79).f1.length ≤ 60 ∧ (E.getD n z79).f2.length ≤ 60) := by
    intro k b h hk
    obtain ⟨k, rfl⟩ : ∃ m, k = m + 2 := ⟨k - 2, by omega⟩
    rw [truffleref08_Few.j2]
    cases b with
    | false =>
      rw [truffleref08_Few.l1]
      refine ⟨false, ?_, fun h => by cases h⟩
      split <;> rfl
    | true =>
      have hE := h rfl
      obtain ⟨r, hr, hh⟩ := few_l1 M E (by omega) 32 (k + 1) true 0 (by omega) (by omega) (by omega)
      exact ⟨r, hr, fun h => ⟨rfl, fun n hn => (hh h).2 n (Nat.zero_le _) hn⟩⟩
  intro j
  induction j with
  | zero => intro k b i h h1; omega
  | succ j ih =>
    intro k b i h h1 hk
    obtain ⟨k, rfl⟩ : ∃ m, k = m + 1 := ⟨k - 1, by omega⟩
    rw [truffleref08_Few.l0]
    by_cases c0 : (i : Int) < M.length
    · rw [if_pos c0]
      cases b with
      | false =>
        rw [if_neg (by decide)]
        obtain ⟨r, hr, hh⟩ := J k false (fun h => by cases h) (by omega)
        exact ⟨r, hr, fun h => absurd (hh h).1 (by decide)⟩
      | true =>
        obtain ⟨hE, hM, hj⟩ := h rfl
        rw [if_pos rfl, if_pos (by omega), show wrap64 ((i : Int) + 1) = ((i + 1 : Nat) : Int) by rw [IntWalk.wrap64_in _ (by omega)]; omega]
        have e1 : rd_T58 M (i : Int) = M.getD i z58 := rfl
        rw [e1]
        obtain ⟨r, hr, hh⟩ := ih k (decide (((M.getD i z58).f1.length : Int) ≤ 60)) (i + 1) (fun _ => ⟨hE, hM, by omega⟩) (by omega) (by omega)
        refine ⟨r, hr, fun h => ?_⟩
        obtain ⟨a, c, d⟩ := hh h
        refine ⟨rfl, fun n hn hl => ?_, d⟩
        rcases Nat.lt_or_eq_of_le hn with hn | rfl
        · exact c n hn hl
        · have := of_decide_eq_true a
          omega
    · rw [if_neg c0]
      obtain ⟨r, hr, hh⟩ := J k b (fun e => (h e).1) (by omega)
      exact ⟨r, hr, fun h => ⟨(hh h).1, fun n hn hl => by omega, (hh h).2⟩⟩
theorem few_tells (M : List S58) (E : List S79) : ∃ r, truffleref08_Few.f 200 M E = some r ∧ (r = true → FewP M E) := by
  have key : ∀ b : Bool, (b = true → M.length ≤ 30 ∧ E.length ≤ 30) → ∃ r, truffleref08_Few.j0 200 b M E = some r ∧ (r = true → FewP M E) := by
    intro b hb
    rw [truffleref08_Few.j0]
    obtain ⟨r, hr, hh⟩ := few_l0 M E 32 199 b 0 (fun h => ⟨(hb h).2, (hb h).1, by have := (hb h).1; omega⟩) (by omega) (by omega)
    refine ⟨r, hr, fun h => ?_⟩
    obtain ⟨a, c, d⟩ := hh h
    refine ⟨(hb a).1, (hb a).2, fun m hm => ?_, fun e he => ?_⟩
    · obtain ⟨n, hn, rfl⟩ := List.mem_iff_getElem.1 hm
      have := c n (Nat.zero_le _) hn
      rwa [List.getD_eq_getElem?_getD, List.getElem?_eq_getElem hn, Option.getD_some] at this
    · obtain ⟨n, hn, rfl⟩ := List.mem_iff_getElem.1 he
      have := d n hn
      rwa [List.getD_eq_getElem?_getD, List.getElem?_eq_getElem hn, Option.getD_some] at this
  unfold truffleref08_Few.f
  split
  · rename_i h
    exact key _ fun e => ⟨by omega, by have := of_decide_eq_true e; omega⟩
  · exact key _ fun e => by cases e
end Go.Proofs.YthikfifoomfjgaaGreat.PA
