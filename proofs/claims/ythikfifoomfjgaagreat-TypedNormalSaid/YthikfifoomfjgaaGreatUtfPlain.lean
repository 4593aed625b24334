/- Plain facts on bytes that are UTF-8: how long a sign at the head of a list of bytes is, how many first bytes are signs, and what follows. No program is named here. -/
import Derived.Laws.BytesArg
namespace Go.Utf
set_option linter.unusedVariables false
set_option linter.unusedSimpArgs false
def cont (n : Int) : Bool := decide (128 ≤ n) && decide (n ≤ 191)
/-- How many bytes a sign has that begins so; 0: none does. -/
def need (c : Int) : Nat := if c ≤ 127 then 1 else if 194 ≤ c ∧ c ≤ 223 then 2 else if 224 ≤ c ∧ c ≤ 239 then 3 else if 240 ≤ c ∧ c ≤ 244 then 4 else 0
/-- May the second byte be so? -/
def second (c d : Int) : Bool := !(decide (c = 224) && decide (d < 160)) && !(decide (c = 237) && decide (159 < d)) && !(decide (c = 240) && decide (d < 144)) && !(decide (c = 244) && decide (143 < d))
/-- How long the sign is that the list begins with; 0: there is none. -/
def sgn : List Int → Nat
  | [] => 0
  | c :: r => if need c ≤ 1 then need c else if need c - 1 ≤ r.length ∧ ((r.take (need c - 1)).all cont && second c (r.headD 0)) = true then need c else 0
theorem need_le (c : Int) : need c ≤ 4 := by unfold need; (repeat' split) <;> omega
theorem sgn_le (l : List Int) : sgn l ≤ l.length := by
  cases l with
  | nil => simp [sgn]
  | cons c r =>
    simp only [sgn, List.length_cons]
    split
    · omega
    · split
      · rename_i h; have := h.1; omega
      · omega
/-- A sign is there whatever follows, and hangs on its own bytes alone. -/
theorem sgn_append (l r : List Int) (h : 0 < sgn l) : sgn (l ++ r) = sgn l := by
  cases l with
  | nil => simp [sgn] at h
  | cons c t =>
    simp only [List.cons_append, sgn] at h ⊢
    split
    · rfl
    · rename_i hn
      rw [if_neg hn] at h
      split at h
      · rename_i hh
        obtain ⟨h1, h2⟩ := hh
        have e1 : (t ++ r).take (need c - 1) = t.take (need c - 1) := by rw [List.take_append_of_le_length h1]
        have e2 : (t ++ r).headD 0 = t.headD 0 := by
          cases t with
          | nil => simp at h1; omega
          | cons => rfl
        rw [e1, e2, if_pos ⟨by simp; omega, h2⟩, if_pos ⟨h1, h2⟩]
      · omega
theorem sgn_take (l : List Int) (h : 0 < sgn l) : sgn (l.take (sgn l)) = sgn l := by
  cases l with
  | nil => simp [sgn] at h
  | cons c t =>
    have hs : sgn (c :: t) = need c := by
      simp only [sgn] at h ⊢
      split
      · rfl
      · rename_i hn
        rw [if_neg hn] at h
        split at h
        · rename_i hh; rw [if_pos hh]
        · omega
    rw [hs] at h ⊢
    obtain ⟨n, hn⟩ : ∃ n, need c = n + 1 := ⟨need c - 1, by omega⟩
    rw [hn, List.take_succ_cons]
    simp only [sgn] at hs ⊢
    rw [hn] at hs ⊢
    by_cases h1 : n + 1 ≤ 1
    · rw [if_pos h1]
    · rw [if_neg h1] at hs ⊢
      split at hs
      · rename_i hh
        obtain ⟨h2, h3⟩ := hh
        simp only [Nat.add_sub_cancel] at h2 h3 ⊢
        have e2 : (t.take n).headD 0 = t.headD 0 := by
          cases t with
          | nil => simp
          | cons x r => obtain ⟨m, rfl⟩ : ∃ m, n = m + 1 := ⟨n - 1, by omega⟩; rfl
        rw [if_pos ⟨by simp; omega, by rw [List.take_take, Nat.min_self, e2]; exact h3⟩]
      · omega
/-- How many first bytes are signs. -/
def firstN (l : List Int) : Nat :=
  if h : 0 < sgn l then sgn l + firstN (l.drop (sgn l)) else 0
termination_by l.length
decreasing_by have := sgn_le l; simp; omega
theorem firstN_zero {l : List Int} (h : sgn l = 0) : firstN l = 0 := by rw [firstN]; simp [h]
theorem firstN_step {l : List Int} (h : 0 < sgn l) : firstN l = sgn l + firstN (l.drop (sgn l)) := by rw [firstN]; simp [h]
theorem firstN_nil : firstN [] = 0 := firstN_zero rfl
theorem firstN_le (l : List Int) : firstN l ≤ l.length := by
  induction h : l.length using Nat.strongRecOn generalizing l with
  | ind n ih =>
    subst h
    by_cases hs : 0 < sgn l
    · rw [firstN_step hs]
      have h1 := sgn_le l
      have := ih (l.drop (sgn l)).length (by simp; omega) (l.drop (sgn l)) rfl
      simp at this; omega
    · rw [firstN_zero (by omega)]; omega
/-- Behind what is fine as many first bytes are as of what follows alone. -/
theorem firstN_append (a b : List Int) (h : firstN a = a.length) : firstN (a ++ b) = a.length + firstN b := by
  induction hn : a.length using Nat.strongRecOn generalizing a with
  | ind n ih =>
    subst hn
    by_cases hs : 0 < sgn a
    · have h1 := sgn_le a
      have h2 := sgn_append a b hs
      rw [firstN_step hs] at h
      have h3 := ih (a.drop (sgn a)).length (by simp; omega) (a.drop (sgn a)) (by simp; omega) rfl
      rw [firstN_step (by omega), h2, List.drop_append_of_le_length h1, h3]
      simp; omega
    · rw [firstN_zero (by omega)] at h
      have : a = [] := by cases a with
        | nil => rfl
        | cons x r => simp at h
      subst this; simp
theorem firstN_take (l : List Int) : firstN (l.take (firstN l)) = firstN l := by
  induction hn : l.length using Nat.strongRecOn generalizing l with
  | ind n ih =>
    subst hn
    by_cases hs : 0 < sgn l
    · have h1 := sgn_le l
      have h2 := sgn_take l hs
      have h3 := ih (l.drop (sgn l)).length (by simp; omega) (l.drop (sgn l)) rfl
      have e : l.take (firstN l) = l.take (sgn l) ++ (l.drop (sgn l)).take (firstN (l.drop (sgn l))) := by
        rw [firstN_step hs, List.take_add]
      have hf : firstN (l.take (sgn l)) = (l.take (sgn l)).length := by
        rw [firstN_step (by omega), h2]
        simp only [List.drop_take, Nat.sub_self, List.take_zero, firstN_nil, List.length_take]; omega
      rw [e, firstN_append _ _ hf, h3]
      conv => rhs; rw [firstN_step hs]
      simp only [List.length_take]; omega
    · have h0 : firstN l = 0 := firstN_zero (by omega)
      rw [h0, List.take_zero, firstN_nil]
theorem sgn_firstN (l : List Int) : sgn (l.drop (firstN l)) = 0 := by
  induction hn : l.length using Nat.strongRecOn generalizing l with
  | ind n ih =>
    subst hn
    by_cases hs : 0 < sgn l
    · have h1 := sgn_le l
      have h3 := ih (l.drop (sgn l)).length (by simp; omega) (l.drop (sgn l)) rfl
      rw [firstN_step hs]
      rw [List.drop_drop] at h3
      exact h3
    · rw [firstN_zero (by omega)]; simp; omega
/-- One byte more is not fine. -/
theorem firstN_more (l : List Int) (h : firstN l < l.length) : firstN (l.take (firstN l + 1)) ≠ firstN l + 1 := by
  intro hc
  have hs := sgn_firstN l
  have ht := firstN_take l
  have hd : l.take (firstN l + 1) = l.take (firstN l) ++ [l[firstN l]] := by rw [List.take_succ_eq_append_getElem h]
  rw [hd, firstN_append _ _ (by rw [ht]; simp; omega)] at hc
  have hl : (l.take (firstN l)).length = firstN l := by simp; omega
  rw [hl] at hc
  have h1 : firstN [l[firstN l]] = 1 := by omega
  have h2 : 0 < sgn [l[firstN l]] := by
    by_cases hz : 0 < sgn [l[firstN l]]
    · exact hz
    · rw [firstN_zero (by omega)] at h1; omega
  have h3 := sgn_append [l[firstN l]] (l.drop (firstN l + 1)) h2
  have h4 : [l[firstN l]] ++ l.drop (firstN l + 1) = l.drop (firstN l) := by
    rw [List.drop_eq_getElem_cons h]; rfl
  rw [h4] at h3
  omega
/-- A byte that no sign has. -/
def never (n : Int) : Bool := decide (245 ≤ n) || decide (n = 192) || decide (n = 193)
theorem sgn_never (l : List Int) (i : Nat) (h : i < sgn l) : never (l.getD i 0) = false := by
  cases l with
  | nil => simp [sgn] at h
  | cons c t =>
    simp only [sgn] at h
    split at h
    · have h0 : i = 0 := by have := need_le c; omega
      subst h0
      have hc : need c = 1 := by omega
      unfold need at hc
      simp only [List.getD_cons_zero, never]
      (repeat' split at hc) <;> simp <;> omega
    · split at h
      · rename_i hn hh
        rcases i with _ | i
        · simp only [List.getD_cons_zero, never]
          unfold need at hn
          (repeat' split at hn) <;> simp <;> omega
        · obtain ⟨h1, h2⟩ := hh
          simp only [Bool.and_eq_true, List.all_eq_true] at h2
          have hi : i < (t.take (need c - 1)).length := by simp; omega
          have hc := h2.1 _ (List.getElem_mem hi)
          have ht : i < t.length := by omega
          simp only [List.getElem_take, cont, Bool.and_eq_true, decide_eq_true_eq] at hc
          have e : (c :: t).getD (i + 1) 0 = t[i] := by simp [List.getD, ht]
          rw [e]
          simp only [never]
          simp; omega
      · omega
theorem firstN_never (l : List Int) (i : Nat) (h : never (l.getD i 0) = true) : firstN l ≤ i := by
  induction hn : l.length using Nat.strongRecOn generalizing l i with
  | ind n ih =>
    subst hn
    by_cases hs : 0 < sgn l
    · have h1 := sgn_le l
      by_cases hi : i < sgn l
      · rw [sgn_never l i hi] at h; simp at h
      · rw [firstN_step hs]
        have := ih (l.drop (sgn l)).length (by simp; omega) (l.drop (sgn l)) (i - sgn l) (by simpa [List.getD, show sgn l + (i - sgn l) = i by omega] using h) rfl
        omega
    · rw [firstN_zero (by omega)]; omega
theorem firstN_low (l : List Int) (h : ∀ n ∈ l, n ≤ 127) : firstN l = l.length := by
  induction l with
  | nil => exact firstN_nil
  | cons c r ih =>
    have hn : need c = 1 := by unfold need; rw [if_pos (h c (by simp))]
    have hc : sgn (c :: r) = 1 := by simp [sgn, hn]
    rw [firstN_step (by omega), hc]
    simp only [List.drop_succ_cons, List.drop_zero, List.length_cons]
    rw [ih (fun n hn => h n (by simp [hn]))]
    omega
end Go.Utf
