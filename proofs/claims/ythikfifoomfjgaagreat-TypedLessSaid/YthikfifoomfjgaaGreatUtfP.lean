/- Plain facts on bytes that are UTF-8: how long a sign at the head of a list of bytes is, how many first bytes are signs, and what follows. No program is named here. The model's own decoding of a sign of UTF-8, against the plain facts of UtfPlain. No program is named here. Contract of utf.Fine, as the other texts ask for it. -/
import Derived.Laws.BytesArg
import Derived.Laws.RangeString
import Derived.Lib.Strings
import Derived.Test.YthikfifoomfjgaaGreatPAx0
import Derived.Test.YthikfifoomfjgaaGreatMem
namespace Go.Utf
set_option linter.unusedVariables false
set_option linter.unusedSimpArgs false
def cont (n : Int) : Bool := decide (128 ≤ n) && decide (n ≤ 191)
/-- How many bytes a sign has that begins so; 0: none does. -/
def need (c : Int) : Nat := if c ≤ 127 then 1 else if 194 ≤ c ∧ c ≤ 223 then 2 else if 224 ≤ c ∧ c ≤ 239 then 3 else if 240 ≤ c ∧ c ≤ 244 then 4 else 0
/-- May the second byte be so? -/
def second (c d : Int) : Bool := !(decide (c = 224) && decide (d < 160)) && !(decide (c = 237) && decide (159 < d)) && !(decide (c = 240) && decide (d < 144)) && !(decide (c = 244) && decide (143 < d))
/-- How long the sign is that the list begins with; 0: there is none. -/
def sgn : List Int → Nat
  | [] => 0
  | c :: r => if need c ≤ 1 then need c else if need c - 1 ≤ r.length ∧ ((r.take (need c - 1)).all cont && second c (r.headD 0)) = true then need c else 0
theorem need_le (c : Int) : need c ≤ 4 := by unfold need; (repeat' split) <;> omega
theorem sgn_le (l : List Int) : sgn l ≤ l.length := by
  cases l with
  | nil => simp [sgn]
  | cons c r =>
    simp only [sgn, List.length_cons]
    split
    · omega
    · split
      · rename_i h; have := h.1; omega
      · omega
/-- A sign is there whatever follows, and hangs on its own bytes alone. -/
theorem sgn_append (l r : List Int) (h : 0 < sgn l) : sgn (l ++ r) = sgn l := by
  cases l with
  | nil => simp [sgn] at h
  | cons c t =>
    simp only [List.cons_append, sgn] at h ⊢
    split
    · rfl
    · rename_i hn
      rw [if_neg hn] at h
      split at h
      · rename_i hh
        obtain ⟨h1, h2⟩ := hh
        have e1 : (t ++ r).take (need c - 1) = t.take (need c - 1) := by rw [List.take_append_of_le_length h1]
        have e2 : (t ++ r).headD 0 = t.headD 0 := by
          cases t with
          | nil => simp at h1; omega
          | cons => rfl
        rw [e1, e2, if_pos ⟨by simp; omega, h2⟩, if_pos ⟨h1, h2⟩]
      · omega
theorem sgn_take (l : List Int) (h : 0 < sgn l) : sgn (l.take (sgn l)) = sgn l := by
  cases l with
  | nil => simp [sgn] at h
  | cons c t =>
    have hs : sgn (c :: t) = need c := by
      simp only [sgn] at h ⊢
      split
      · rfl
      · rename_i hn
        rw [if_neg hn] at h
        split at h
        · rename_i hh; rw [if_pos hh]
        · omega
    rw [hs] at h ⊢
    obtain ⟨n, hn⟩ : ∃ n, need c = n + 1 := ⟨need c - 1, by omega⟩
    rw [hn, List.take_succ_cons]
    simp only [sgn] at hs ⊢
    rw [hn] at hs ⊢
    by_cases h1 : n + 1 ≤ 1
    · rw [if_pos h1]
    · rw [if_neg h1] at hs ⊢
      split at hs
      · rename_i hh
        obtain ⟨h2, h3⟩ := hh
        simp only [Nat.add_sub_cancel] at h2 h3 ⊢
        have e2 : (t.take n).headD 0 = t.headD 0 := by
          cases t with
          | nil => simp
          | cons x r => obtain ⟨m, rfl⟩ : ∃ m, n = m + 1 := ⟨n - 1, by omega⟩; rfl
        rw [if_pos ⟨by simp; omega, by rw [List.take_take, Nat.min_self, e2]; exact h3⟩]
      · omega
/-- How many first bytes are signs. -/
def firstN (l : List Int) : Nat :=
  if h : 0 < sgn l then sgn l + firstN (l.drop (sgn l)) else 0
termination_by l.length
decreasing_by have := sgn_le l; simp; omega
theorem firstN_zero {l : List Int} (h : sgn l = 0) : firstN l = 0 := by rw [firstN]; simp [h]
theorem firstN_step {l : List Int} (h : 0 < sgn l) : firstN l = sgn l + firstN (l.drop (sgn l)) := by rw [firstN]; simp [h]
theorem firstN_nil : firstN [] = 0 := firstN_zero rfl
theorem firstN_le (l : List Int) : firstN l ≤ l.length := by
  induction h : l.length using Nat.strongRecOn generalizing l with
  | ind n ih =>
    subst h
    by_cases hs : 0 < sgn l
    · rw [firstN_step hs]
      have h1 := sgn_le l
      have := ih (l.drop (sgn l)).length (by simp; omega) (l.drop (sgn l)) rfl
      simp at this; omega
    · rw [firstN_zero (by omega)]; omega
/-- Behind what is fine as many first bytes are as of what follows alone. -/
theorem firstN_append (a b : List Int) (h : firstN a = a.length) : firstN (a ++ b) = a.length + firstN b := by
  induction hn : a.length using Nat.strongRecOn generalizing a with
  | ind n ih =>
    subst hn
    by_cases hs : 0 < sgn a
    · have h1 := sgn_le a
      have h2 := sgn_append a b hs
      rw [firstN_step hs] at h
      have h3 := ih (a.drop (sgn a)).length (by simp; omega) (a.drop (sgn a)) (by simp; omega) rfl
      rw [firstN_step (by omega), h2, List.drop_append_of_le_length h1, h3]
      simp; omega
    · rw [firstN_zero (by omega)] at h
      have : a = [] := by cases a with
        | nil => rfl
        | cons x r => simp at h
      subst this; simp
theorem firstN_take (l : List Int) : firstN (l.take (firstN l)) = firstN l := by
  induction hn : l.length using Nat.strongRecOn generalizing l with
  | ind n ih =>
    subst hn
    by_cases hs : 0 < sgn l
    · have h1 := sgn_le l
      have h2 := sgn_take l hs
      have h3 := ih (l.drop (sgn l)).length (by simp; omega) (l.drop (sgn l)) rfl
      have e : l.take (firstN l) = l.take (sgn l) ++ (l.drop (sgn l)).take (firstN (l.drop (sgn l))) := by
        rw [firstN_step hs, List.take_add]
      have hf : firstN (l.take (sgn l)) = (l.take (sgn l)).length := by
        rw [firstN_step (by omega), h2]
        simp only [List.drop_take, Nat.sub_self, List.take_zero, firstN_nil, List.length_take]; omega
      rw [e, firstN_append _ _ hf, h3]
      conv => rhs; rw [firstN_step hs]
      simp only [List.length_take]; omega
    · have h0 : firstN l = 0 := firstN_zero (by omega)
      rw [h0, List.take_zero, firstN_nil]
theorem sgn_firstN (l : List Int) : sgn (l.drop (firstN l)) = 0 := by
  induction hn : l.length using Nat.strongRecOn generalizing l with
  | ind n ih =>
    subst hn
    by_cases hs : 0 < sgn l
    · have h1 := sgn_le l
      have h3 := ih (l.drop (sgn l)).length (by simp; omega) (l.drop (sgn l)) rfl
      rw [firstN_step hs]
      rw [List.drop_drop] at h3
      exact h3
    · rw [firstN_zero (by omega)]; simp; omega
/-- One byte more is not fine. -/
theorem firstN_more (l : List Int) (h : firstN l < l.length) : firstN (l.take (firstN l + 1)) ≠ firstN l + 1 := by
  intro hc
  have hs := sgn_firstN l
  have ht := firstN_take l
  have hd : l.take (firstN l + 1) = l.take (firstN l) ++ [l[firstN l]] := by rw [List.take_succ_eq_append_getElem h]
  rw [hd, firstN_append _ _ (by rw [ht]; simp; omega)] at hc
  have hl : (l.take (firstN l)).length = firstN l := by simp; omega
  rw [hl] at hc
  have h1 : firstN [l[firstN l]] = 1 := by omega
  have h2 : 0 < sgn [l[firstN l]] := by
    by_cases hz : 0 < sgn [l[firstN l]]
    · exact hz
    · rw [firstN_zero (by omega)] at h1; omega
  have h3 := sgn_append [l[firstN l]] (l.drop (firstN l + 1)) h2
  have h4 : [l[firstN l]] ++ l.drop (firstN l + 1) = l.drop (firstN l) := by
    rw [List.drop_eq_getElem_cons h]; rfl
  rw [h4] at h3
  omega
/-- A byte that no sign has. -/
def never (n : Int) : Bool := decide (245 ≤ n) || decide (n = 192) || decide (n = 193)
theorem sgn_never (l : List Int) (i : Nat) (h : i < sgn l) : never (l.getD i 0) = false := by
  cases l with
  | nil => simp [sgn] at h
  | cons c t =>
    simp only [sgn] at h
    split at h
    · have h0 : i = 0 := by have := need_le c; omega
      subst h0
      have hc : need c = 1 := by omega
      unfold need at hc
      simp only [List.getD_cons_zero, never]
      (repeat' split at hc) <;> simp <;> omega
    · split at h
      · rename_i hn hh
        rcases i with _ | i
        · simp only [List.getD_cons_zero, never]
          unfold need at hn
          (repeat' split at hn) <;> simp <;> omega
        · obtain ⟨h1, h2⟩ := hh
          simp only [Bool.and_eq_true, List.all_eq_true] at h2
          have hi : i < (t.take (need c - 1)).length := by simp; omega
          have hc := h2.1 _ (List.getElem_mem hi)
          have ht : i < t.length := by omega
          simp only [List.getElem_take, cont, Bool.and_eq_true, decide_eq_true_eq] at hc
          have e : (c :: t).getD (i + 1) 0 = t[i] := by simp [List.getD, ht]
          rw [e]
          simp only [never]
          simp; omega
      · omega
theorem firstN_never (l : List Int) (i : Nat) (h : never (l.getD i 0) = true) : firstN l ≤ i := by
  induction hn : l.length using Nat.strongRecOn generalizing l i with
  | ind n ih =>
    subst hn
    by_cases hs : 0 < sgn l
    · have h1 := sgn_le l
      by_cases hi : i < sgn l
      · rw [sgn_never l i hi] at h; simp at h
      · rw [firstN_step hs]
        have := ih (l.drop (sgn l)).length (by simp; omega) (l.drop (sgn l)) (i - sgn l) (by simpa [List.getD, show sgn l + (i - sgn l) = i by omega] using h) rfl
        omega
    · rw [firstN_zero (by omega)]; omega
theorem firstN_low (l : List Int) (h : ∀ n ∈ l, n ≤ 127) : firstN l = l.length := by
  induction l with
  | nil => exact firstN_nil
  | cons c r ih =>
    have hn : need c = 1 := by unfold need; rw [if_pos (h c (by simp))]
    have hc : sgn (c :: r) = 1 := by simp [sgn, hn]
    rw [firstN_step (by omega), hc]
    simp only [List.drop_succ_cons, List.drop_zero, List.length_cons]
    rw [ih (fun n hn => h n (by simp [hn]))]
    omega
end Go.Utf
namespace Go.Utf
set_option linter.unusedVariables false
set_option linter.unusedSimpArgs false
def dec (n a b c d : Nat) : Nat × Nat :=
  if a < 128 then (a, 1)
  else if a / 32 = 6 ∧ 1 < n ∧ b / 64 = 2 then
    (if 128 ≤ a % 32 * 64 + b % 64 then (a % 32 * 64 + b % 64, 2) else (65533, 1))
  else if a / 16 = 14 ∧ (1 < n ∧ b / 64 = 2) ∧ 2 < n ∧ c / 64 = 2 then
    (if 2048 ≤ a % 16 * 4096 + b % 64 * 64 + c % 64 ∧ (a % 16 * 4096 + b % 64 * 64 + c % 64 < 55296 ∨ 57344 ≤ a % 16 * 4096 + b % 64 * 64 + c % 64) then (a % 16 * 4096 + b % 64 * 64 + c % 64, 3) else (65533, 1))
  else if a / 8 = 30 ∧ (1 < n ∧ b / 64 = 2) ∧ (2 < n ∧ c / 64 = 2) ∧ 3 < n ∧ d / 64 = 2 then
    (if 65536 ≤ a % 8 * 262144 + b % 64 * 4096 + c % 64 * 64 + d % 64 ∧ a % 8 * 262144 + b % 64 * 4096 + c % 64 * 64 + d % 64 ≤ 1114111 then (a % 8 * 262144 + b % 64 * 4096 + c % 64 * 64 + d % 64, 4) else (65533, 1))
  else (65533, 1)
def sg (n : Nat) (a b c d : Int) : Nat :=
  if need a ≤ 1 then need a else if need a ≤ n ∧ cont b = true ∧ (3 ≤ need a → cont c = true) ∧ (4 ≤ need a → cont d = true) ∧ second a b = true then need a else 0
theorem sgn_eq (c : Int) (r : List Int) : sgn (c :: r) = sg (r.length + 1) c (r.getD 0 0) (r.getD 1 0) (r.getD 2 0) := by
  have hl := need_le c
  simp only [sgn, sg]
  split
  · rfl
  · rename_i hn
    have e : (need c - 1 ≤ r.length ∧ ((r.take (need c - 1)).all cont && second c (r.headD 0)) = true) ↔
        (need c ≤ r.length + 1 ∧ cont (r.getD 0 0) = true ∧ (3 ≤ need c → cont (r.getD 1 0) = true) ∧ (4 ≤ need c → cont (r.getD 2 0) = true) ∧ second c (r.getD 0 0) = true) := by
      have h : need c = 2 ∨ need c = 3 ∨ need c = 4 := by omega
      rcases h with h | h | h <;> rw [h] <;> match r with
        | [] => simp
        | [x] => simp
        | [x, y] => simp [and_assoc]
        | x :: y :: z :: t => simp [and_assoc]
    simp only [e]
theorem get_str (l : List Int) (hb : ∀ n ∈ l, 0 ≤ n ∧ n ≤ 255) (i : Nat) : ((strOfNums l).get! i).toNat = (l.getD i 0).toNat := by
  by_cases h : i < l.length
  · have h2 : i < (strOfNums l).size := by rw [strOfNums_size]; exact h
    have hm := hb _ (List.getElem_mem h)
    have : (strOfNums l).get! i = UInt8.ofNat (l[i]).toNat := by
      simp only [ByteArray.get!, strOfNums]
      simp [h]
    rw [this]
    simp [List.getD, h]; omega
  · have : (strOfNums l).get! i = 0 := by
      simp only [ByteArray.get!, strOfNums]
      simp [h]; rfl
    rw [this]
    simp [List.getD, h]
theorem decode_eq (l : List Int) (hb : ∀ n ∈ l, 0 ≤ n ∧ n ≤ 255) (p : Nat) (hp : p < l.length) :
    Utf8.decode (strOfNums l) p = dec (l.length - p) (l.getD p 0).toNat (l.getD (p + 1) 0).toNat (l.getD (p + 2) 0).toNat (l.getD (p + 3) 0).toNat := by
  unfold Utf8.decode dec
  simp only [get_str l hb, strOfNums_size, Nat.add_zero]
  generalize (l.getD p 0).toNat = a
  generalize (l.getD (p + 1) 0).toNat = b
  generalize (l.getD (p + 2) 0).toNat = c
  generalize (l.getD (p + 3) 0).toNat = d
  have e1 : p + 1 < l.length ↔ 1 < l.length - p := by omega
  have e2 : p + 2 < l.length ↔ 2 < l.length - p := by omega
  have e3 : p + 3 < l.length ↔ 3 < l.length - p := by omega
  simp only [e1, e2, e3]
  simp only [Bool.and_eq_true, beq_iff_eq, decide_eq_true_eq, and_assoc, ge_iff_le, Utf8.runeError, Utf8.valid, Bool.or_eq_true]
  split
  · rfl
  · split
    · rfl
    · split
      · have : ((128 : Nat) = 128) := rfl
        congr 1
        simp; omega
      · split
        · congr 1
          simp; omega
        · rfl
theorem need_cases (a : Int) : (need a = 1 ∧ a ≤ 127) ∨ (need a = 2 ∧ 194 ≤ a ∧ a ≤ 223) ∨ (need a = 3 ∧ 224 ≤ a ∧ a ≤ 239) ∨ (need a = 4 ∧ 240 ≤ a ∧ a ≤ 244) ∨ (need a = 0 ∧ 127 < a ∧ (a < 194 ∨ 244 < a)) := by
  unfold need
  (repeat' split) <;> omega
theorem dec_sg (n : Nat) (a b c d : Int) (hn : 1 ≤ n) (ha : 0 ≤ a ∧ a ≤ 255) (hb : 0 ≤ b ∧ b ≤ 255) (hc : 0 ≤ c ∧ c ≤ 255) (hd : 0 ≤ d ∧ d ≤ 255) :
    (sg n a b c d = 0 → dec n a.toNat b.toNat c.toNat d.toNat = (65533, 1) ∧ ¬ (3 ≤ n ∧ a = 239 ∧ b = 191 ∧ c = 189)) ∧
    (0 < sg n a b c d → (dec n a.toNat b.toNat c.toNat d.toNat).2 = sg n a b c d ∧ ((dec n a.toNat b.toNat c.toNat d.toNat).1 = 65533 → (3 ≤ n ∧ a = 239 ∧ b = 191 ∧ c = 189))) := by
  have hk := need_cases a
  obtain ⟨a, rfl⟩ := Int.eq_ofNat_of_zero_le ha.1
  obtain ⟨b, rfl⟩ := Int.eq_ofNat_of_zero_le hb.1
  obtain ⟨c, rfl⟩ := Int.eq_ofNat_of_zero_le hc.1
  obtain ⟨d, rfl⟩ := Int.eq_ofNat_of_zero_le hd.1
  simp only [Int.toNat_natCast]
  rcases hk with ⟨h, hr⟩ | ⟨h, hr⟩ | ⟨h, hr⟩ | ⟨h, hr⟩ | ⟨h, hr⟩
  all_goals
    unfold sg
    rw [h]
    clear h
    refine ⟨fun h => ?_, fun h => ?_⟩
    all_goals
      try simp only [Nat.reduceLeDiff, Nat.le_refl, Nat.zero_le, if_true, if_false, false_implies, true_implies, forall_const, true_and] at h ⊢
      unfold dec
      try unfold second cont at h
      try unfold second cont
      try simp only [Bool.and_eq_true, Bool.not_eq_true', Bool.and_eq_false_iff, decide_eq_true_eq, decide_eq_false_iff_not] at h
      try simp only [Bool.and_eq_true, Bool.not_eq_true', Bool.and_eq_false_iff, decide_eq_true_eq, decide_eq_false_iff_not]
      (repeat' split at h) <;> (repeat' split) <;> (refine ⟨?_, ?_⟩) <;> first | rfl | omega | (simp only [Prod.mk.injEq]; omega) | (dsimp only; omega)
theorem getD_range (l : List Int) (hb : ∀ n ∈ l, 0 ≤ n ∧ n ≤ 255) (i : Nat) : 0 ≤ l.getD i 0 ∧ l.getD i 0 ≤ 255 := by
  by_cases h : i < l.length
  · have := hb _ (List.getElem_mem h); simpa [List.getD, h] using this
  · simp [List.getD, h]
/-- What one round of 'range' sees at a place. -/
theorem round_at (l : List Int) (hb : ∀ n ∈ l, 0 ≤ n ∧ n ≤ 255) (p : Nat) (hp : p < l.length) :
    ∃ c k : Nat, Utf8.decode (strOfNums l) p = (c, k) ∧
      ((sgn (l.drop p) = 0 ∧ c = 65533 ∧ ¬ (p + 3 ≤ l.length ∧ l.getD p 0 = 239 ∧ l.getD (p + 1) 0 = 191 ∧ l.getD (p + 2) 0 = 189)) ∨
       (0 < sgn (l.drop p) ∧ k = sgn (l.drop p) ∧ (c = 65533 → (p + 3 ≤ l.length ∧ l.getD p 0 = 239 ∧ l.getD (p + 1) 0 = 191 ∧ l.getD (p + 2) 0 = 189)))) := by
  have hd := List.drop_eq_getElem_cons hp
  have e : sgn (l.drop p) = sg (l.length - p) (l.getD p 0) (l.getD (p + 1) 0) (l.getD (p + 2) 0) (l.getD (p + 3) 0) := by
    rw [hd, sgn_eq]
    have g (j : Nat) : (l.drop (p + 1)).getD j 0 = l.getD (p + 1 + j) 0 := by simp [List.getD]
    rw [g 0, g 1, g 2]
    have h0 : l[p] = l.getD p 0 := by simp [List.getD, hp]
    rw [h0, List.length_drop, show l.length - (p + 1) + 1 = l.length - p by omega]
  rw [decode_eq l hb p hp, e]
  obtain ⟨s1, s2⟩ := dec_sg (l.length - p) _ _ _ _ (by omega) (getD_range l hb p) (getD_range l hb (p + 1)) (getD_range l hb (p + 2)) (getD_range l hb (p + 3))
  refine ⟨_, _, rfl, ?_⟩
  by_cases hz : sg (l.length - p) (l.getD p 0) (l.getD (p + 1) 0) (l.getD (p + 2) 0) (l.getD (p + 3) 0) = 0
  · obtain ⟨t1, t2⟩ := s1 hz
    exact .inl ⟨hz, congrArg Prod.fst t1, fun ⟨q1, q2⟩ => t2 ⟨by omega, q2⟩⟩
  · obtain ⟨t1, t2⟩ := s2 (by omega)
    exact .inr ⟨by omega, t1, fun hc => by obtain ⟨q1, q2⟩ := t2 hc; exact ⟨by omega, q2⟩⟩
/-- Three bytes of a text are those of the sign U+FFFD just if they are. -/
theorem ext3 (l : List Int) (hb : ∀ n ∈ l, 0 ≤ n ∧ n ≤ 255) (p : Nat) (hp : p + 3 ≤ l.length) :
    (((strOfNums l).extract p (p + 3)).toList == [239, 191, 189]) = decide (l.getD p 0 = 239 ∧ l.getD (p + 1) 0 = 191 ∧ l.getD (p + 2) 0 = 189) := by
  have e : ((strOfNums l).extract p (p + 3)).toList = [UInt8.ofNat (l.getD p 0).toNat, UInt8.ofNat (l.getD (p + 1) 0).toNat, UInt8.ofNat (l.getD (p + 2) 0).toNat] := by
    rw [Lib.extract_toList, strOfNums_data]
    have h0 : p < l.length := by omega
    have h1 : p + 1 < l.length := by omega
    have h2 : p + 2 < l.length := by omega
    apply List.ext_getElem
    · simp; omega
    · intro i hi1 hi2
      simp only [List.length_cons, List.length_nil] at hi2
      have : i = 0 ∨ i = 1 ∨ i = 2 := by omega
      rcases this with rfl | rfl | rfl <;> simp [List.getD, h0, h1, h2]
  rw [e]
  have r0 := getD_range l hb p
  have r1 := getD_range l hb (p + 1)
  have r2 := getD_range l hb (p + 2)
  have key (n : Int) (hn : 0 ≤ n ∧ n ≤ 255) (m : Nat) (hm : m ≤ 255) : UInt8.ofNat n.toNat = UInt8.ofNat m ↔ n = m := by
    rw [← UInt8.toNat_inj]
    simp; omega
  rw [Bool.eq_iff_iff]
  simp only [beq_iff_eq, List.cons.injEq, and_true, decide_eq_true_eq]
  rw [show (239 : UInt8) = UInt8.ofNat 239 from rfl, show (191 : UInt8) = UInt8.ofNat 191 from rfl, show (189 : UInt8) = UInt8.ofNat 189 from rfl,
    key _ r0 239 (by omega), key _ r1 191 (by omega), key _ r2 189 (by omega)]
  simp
/-- A sign at a place, byte by byte. -/
theorem sgn_at (l : List Int) (p : Nat) (hp : p < l.length) (n : Nat) (hn : need (l.getD p 0) = n) :
    (n ≤ 1 → sgn (l.drop p) = n) ∧ (1 < n → (p + n ≤ l.length ∧ (∀ j, 1 ≤ j → j < n → cont (l.getD (p + j) 0) = true) ∧ second (l.getD p 0) (l.getD (p + 1) 0) = true) → sgn (l.drop p) = n) ∧
    (1 < n → ¬ (p + n ≤ l.length ∧ (∀ j, 1 ≤ j → j < n → cont (l.getD (p + j) 0) = true) ∧ second (l.getD p 0) (l.getD (p + 1) 0) = true) → sgn (l.drop p) = 0) := by
  have hd := List.drop_eq_getElem_cons hp
  have e : sgn (l.drop p) = sg (l.length - p) (l.getD p 0) (l.getD (p + 1) 0) (l.getD (p + 2) 0) (l.getD (p + 3) 0) := by
    rw [hd, sgn_eq]
    have g (j : Nat) : (l.drop (p + 1)).getD j 0 = l.getD (p + 1 + j) 0 := by simp [List.getD]
    rw [g 0, g 1, g 2]
    have h0 : l[p] = l.getD p 0 := by simp [List.getD, hp]
    rw [h0, List.length_drop, show l.length - (p + 1) + 1 = l.length - p by omega]
  have h4 := need_le (l.getD p 0)
  rw [e]
  unfold sg
  rw [hn] at h4 ⊢
  refine ⟨fun h => by rw [if_pos h], fun h1 h2 => ?_, fun h1 h2 => ?_⟩
  all_goals
    rw [if_neg (by omega)]
    have : (n ≤ l.length - p ∧ cont (l.getD (p + 1) 0) = true ∧ (3 ≤ n → cont (l.getD (p + 2) 0) = true) ∧ (4 ≤ n → cont (l.getD (p + 3) 0) = true) ∧ second (l.getD p 0) (l.getD (p + 1) 0) = true) ↔
        (p + n ≤ l.length ∧ (∀ j, 1 ≤ j → j < n → cont (l.getD (p + j) 0) = true) ∧ second (l.getD p 0) (l.getD (p + 1) 0) = true) := by
      constructor
      · rintro ⟨q1, q2, q3, q4, q5⟩
        refine ⟨by omega, ?_, q5⟩
        intro j j1 j2
        have : j = 1 ∨ j = 2 ∨ j = 3 := by omega
        rcases this with rfl | rfl | rfl
        · exact q2
        · exact q3 (by omega)
        · exact q4 (by omega)
      · rintro ⟨q1, q2, q3⟩
        exact ⟨by omega, q2 1 (by omega) (by omega), fun h => q2 2 (by omega) (by omega), fun h => q2 3 (by omega) (by omega), q3⟩
    first | rw [if_pos (this.2 h2)] | rw [if_neg (fun q => h2 (this.1 q))]
end Go.Utf
namespace Go.Utf
/-- Are the bytes from one place to another one UTF-8? -/
def fineB (l : List Int) (at_ upto : Int) : Bool :=
  decide (0 ≤ at_) && decide (at_ ≤ upto) && decide (upto ≤ l.length) && decide (firstN ((l.take upto.toNat).drop at_.toNat) = (upto - at_).toNat)
end Go.Utf
namespace Go.Proofs.YthikfifoomfjgaaGreat.PA
open Go.RowKit Go.Proofs.YthikfifoomfjgaaGreatW.PrintWords Go.Proofs.YthikfifoomfjgaaGreatW.PrintLast Go.Proofs.YthikfifoomfjgaaGreatW.PrintMore
set_option linter.unusedVariables false
set_option linter.unusedSimpArgs false
set_option maxHeartbeats 2000000 in
theorem utf_first (w : World) (A : Option Addr) (cap : Nat) (l : List Int) (h : (Kd.int .u8).C w A l.length l) (h3 : ∀ n ∈ l, 0 ≤ n ∧ n ≤ 255) (hm : l.length ≤ 140737488355328) :
    Calls Tryz.prog 113 #[.slice A l.length cap] w fun e w' => e = .returned (.int .i64 (Utf.firstN l)) ∧ Below w.heap.size w w' := by
  have hcv := Kd.C_string (P := Tryz.prog) (c := cap) Tryz.underlying107 Tryz.underlying5 Tryz.underlying9 h
  have hz := strOfNums_size l
  have hz1 : (strOfNums l).size ≤ l.length := by omega
  have hz2 : l.length ≤ (strOfNums l).size := by omega
  have HZ := Lib.hid hz
  clear hz
  have HR := Lib.hid (Utf.round_at l h3)
  have HE := Lib.hid (Utf.ext3 l h3)
  clear h3
  go_enter Tryz.func113, Tryz.ntmps113
  go_wp2; go_step3; go_wp2; go_step3; go_wp2
  clear hcv
  go_loopg [4] l.length (fun g n wr => ∃ p : Nat, p ≤ l.length ∧ wr = w.iter (strOfNums l) p ∧ Hid (Utf.firstN l = p + Utf.firstN (l.drop p)) ∧ n = .int .i64 l.length ∧ l.length - p ≤ g)
  case atStart => exact ⟨0, by omega, rfl, by show _ = _; simp, by rw [HZ.out], by omega⟩
  case round =>
    obtain ⟨p, hp, rfl, hf, rfl, hg⟩ := hrel
    by_cases hlt : p < l.length
    · obtain ⟨c, k, hd, hcase⟩ := HR.out p hlt
      have hnx := fun ty => run_next_sign (P := Tryz.prog) w (strOfNums l) p ty c k (by rw [HZ.out]; exact hlt) hd
      rcases hcase with ⟨hs, rfl, hno⟩ | ⟨hs, rfl, hyes⟩
      · have hfin : Utf.firstN l = p := by rw [hf.out, Utf.firstN_zero hs, Nat.add_zero]
        have HF := Lib.hid hfin
        clear hfin hs hd
        by_cases h3 : p + 3 ≤ l.length
        · have he : (((strOfNums l).extract p (p + 3)).toList == [239, 191, 189]) = false := by
            rw [HE.out p h3]; simp; intro q1 q2 q3; exact hno ⟨h3, q1, q2, q3⟩
          clear hno
          go_wp2
          try rw [Exit.noGoto_ret]
          go_ret
          exact ⟨by rw [HF.out]; rfl, ((Below.refl _ _).alloc (Nat.le_refl _) _)⟩
        · clear hno
          go_wp2
          try rw [Exit.noGoto_ret]
          go_ret
          exact ⟨by rw [HF.out]; rfl, ((Below.refl _ _).alloc (Nat.le_refl _) _)⟩
      · have hle := Utf.sgn_le (l.drop p)
        rw [List.length_drop] at hle
        have hnext : Utf.firstN l = (p + Utf.sgn (l.drop p) : Nat) + Utf.firstN (l.drop (p + Utf.sgn (l.drop p))) := by
          rw [hf.out, Utf.firstN_step hs, List.drop_drop]; omega
        have HN := Lib.hid hnext
        clear hnext hd
        by_cases hc : c = 65533
        · obtain ⟨h3, hq⟩ := hyes hc
          have he : (((strOfNums l).extract p (p + 3)).toList == [239, 191, 189]) = true := by
            rw [HE.out p h3]; simpa using hq
          clear hyes hq
          subst hc
          generalize Utf.sgn (l.drop p) = k at *
          go_wp2
          go_roundg (l.length - (p + k))
          case measure => omega
          case rel => exact ⟨p + k, by omega, rfl, HN.out, rfl, by omega⟩
        · clear hyes
          have hc1 : ((c : Int) == 65533) = false := by simp; omega
          clear hc
          generalize Utf.sgn (l.drop p) = k at *
          go_wp2
          go_roundg (l.length - (p + k))
          case measure => omega
          case rel => exact ⟨p + k, by omega, rfl, HN.out, rfl, by omega⟩
    · have hpe : p = l.length := by omega
      subst hpe
      have hfin : Utf.firstN l = l.length := by rw [hf.out]; simp [Utf.firstN_nil]
      have HF := Lib.hid hfin
      clear hfin
      have hnx := fun ty => run_next_end (P := Tryz.prog) w (strOfNums l) l.length ty (by rw [HZ.out]; omega)
      go_wp2
      try rw [Exit.noGoto_ret]
      go_ret
      exact ⟨by rw [HF.out]; rfl, ((Below.refl _ _).alloc (Nat.le_refl _) _)⟩
theorem ret_bool' {a b : Bool} (h : a = b) : Ending.returned (.bool a) = .returned (.bool b) := by rw [h]
/-- Bytes that are bytes, no more than a slice can have. -/
def isBytes (l : List Int) : Bool := l.all (fun n => decide (0 ≤ n) && decide (n ≤ 255)) && decide (l.length ≤ 140737488355328)
theorem isBytes_out {l : List Int} (h : isBytes l = true) : (∀ n ∈ l, 0 ≤ n ∧ n ≤ 255) ∧ l.length ≤ 140737488355328 := by
  simpa [isBytes] using h
def utf_Fine.f (l0 : List Int) (a1 : Int) (a2 : Int) : Option (Bool) := if isBytes l0 = true then some (Utf.fineB l0 a1 a2) else none
theorem info_u8 : ∃ i, Tryz.prog.info? 5 = some i ∧ i.size = 1 := by
  have h : (Tryz.prog.info? 5).map (·.size) = some 1 := by kernel_rfl
  cases e : Tryz.prog.info? 5 with
  | none => rw [e] at h; cases h
  | some i => rw [e] at h; exact ⟨i, rfl, Option.some.inj h⟩
set_option maxHeartbeats 2000000 in
theorem utf_Fine.calls (A0 : Option Addr) (c0 : Nat) (l0 : List Int) (a1 : Int) (a2 : Int) (r : Bool) (w : World) (hr0 : Kd.C (Kd.int .u8) w A0 l0.length l0) (hc0 : l0.length ≤ c0) (h : utf_Fine.f l0 a1 a2 = some r) :
    Calls Tryz.prog 83 #[.slice A0 l0.length c0, .int .i64 a1, .int .i64 a2] w fun e w' => e = .returned (.bool r) ∧ Below w.heap.size w w' := by
  unfold utf_Fine.f at h
  split at h
  case isFalse => cases h
  rename_i hu
  obtain ⟨hby, hm⟩ := isBytes_out hu
  obtain rfl := Option.some.inj h
  clear h hu
  by_cases c1 : 0 ≤ a1
  · by_cases c2 : a1 ≤ a2
    · by_cases c3 : a2 ≤ l0.length
      · obtain ⟨i0, hi, hsz⟩ := info_u8
        obtain ⟨A', hsl, hrd, hcap⟩ := print_mid_int (P := Tryz.prog) (k := .u8) 107 5 Tryz.underlying107 hi hsz A0 c0 l0 a1 a2 c1 c2 c3 hc0
        have hC := Kd.C_of_reads (d := (0 : Int)) (h1 := fun _ => rfl) (hrd w (Kd.reads_of_C (enc := Value.int .u8) (d := (0 : Int)) (h1 := fun _ => rfl) hr0))
        have hle := Utf.firstN_le ((l0.take a2.toNat).drop a1.toNat)
        have hf := Lib.hid (utf_first w A' (c0 - a1.toNat) _ hC (fun n hn => hby n (List.mem_of_mem_take (List.mem_of_mem_drop hn))) (by simp; omega))
        have hlen : ((l0.take a2.toNat).drop a1.toNat).length = a2.toNat - a1.toNat := by simp; omega
        have e1 : Utf.fineB l0 a1 a2 = ((Utf.firstN ((l0.take a2.toNat).drop a1.toNat) : Int) == a2 - a1) := by
          unfold Utf.fineB
          rw [Bool.eq_iff_iff]
          simp; omega
        have E1 := Lib.hid e1
        have HSL := Lib.hid hsl
        clear e1 hsl hrd hC hr0 hlen hi hsz
        generalize Utf.firstN ((l0.take a2.toNat).drop a1.toNat) = n at *
        have hsl := HSL.out
        generalize ((l0.take a2.toNat).drop a1.toNat) = l' at *
        clear HSL
        go_enter Tryz.func83, Tryz.ntmps83
        go_wp2_with (go_at_call 113; refine (hf.out).mono ?_; rintro e w1 ⟨rfl, b1⟩)
        go_ret
        exact ⟨ret_bool' (by rw [E1.out]), b1⟩
      · have e1 : Utf.fineB l0 a1 a2 = false := by simp [Utf.fineB]; omega
        have E1 := Lib.hid e1
        clear e1 hr0
        go_enter Tryz.func83, Tryz.ntmps83
        go_wp2
        go_ret
        exact ⟨ret_bool' (by rw [E1.out]), Below.refl _ _⟩
    · have e1 : Utf.fineB l0 a1 a2 = false := by simp [Utf.fineB]; omega
      have E1 := Lib.hid e1
      clear e1 hr0
      go_enter Tryz.func83, Tryz.ntmps83
      go_wp2
      go_ret
      exact ⟨ret_bool' (by rw [E1.out]), Below.refl _ _⟩
  · have e1 : Utf.fineB l0 a1 a2 = false := by simp [Utf.fineB]; omega
    have E1 := Lib.hid e1
    clear e1 hr0
    go_enter Tryz.func83, Tryz.ntmps83
    go_wp2
    go_ret
    exact ⟨ret_bool' (by rw [E1.out]), Below.refl _ _⟩
end Go.Proofs.YthikfifoomfjgaaGreat.PA
