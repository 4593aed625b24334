/- The model's own decoding of a sign of UTF-8, against the plain facts of UtfPlain. No program is named here. -/
import Derived.Test.YthikfifoomfjgaaGreatUtfPlain
import Derived.Laws.RangeString
import Derived.Lib.Strings
namespace Go.Utf
set_option linter.unusedVariables false
set_option linter.unusedSimpArgs false
def dec (n a b c d : Nat) : Nat × Nat :=
  if a < 128 then (a, 1)
  else if a / 32 = 6 ∧ 1 < n ∧ b / 64 = 2 then
    (if 128 ≤ a % 32 * 64 + b % 64 then (a % 32 * 64 + b % 64, 2) else (65533, 1))
  else if a / 16 = 14 ∧ (1 < n ∧ b / 64 = 2) ∧ 2 < n ∧ c / 64 = 2 then
    (if 2048 ≤ a % 16 * 4096 + b % 64 * 64 + c % 64 ∧ (a % 16 * 4096 + b % 64 * 64 + c % 64 < 55296 ∨ 57344 ≤ a % 16 * 4096 + b % 64 * 64 + c % 64) then (a % 16 * 4096 + b % 64 * 64 + c % 64, 3) else (65533, 1))
  else if a / 8 = 30 ∧ (1 < n ∧ b / 64 = 2) ∧ (2 < n ∧ c / 64 = 2) ∧ 3 < n ∧ d / 64 = 2 then
    (if 65536 ≤ a % 8 * 262144 + b % 64 * 4096 + c % 64 * 64 + d % 64 ∧ a % 8 * 262144 + b % 64 * 4096 + c % 64 * 64 + d % 64 ≤ 1114111 then (a % 8 * 262144 + b % 64 * 4096 + c % 64 * 64 + d % 64, 4) else (65533, 1))
  else (65533, 1)
def sg (n : Nat) (a b c d : Int) : Nat :=
  if need a ≤ 1 then need a else if need a ≤ n ∧ cont b = true ∧ (3 ≤ need a → cont c = true) ∧ (4 ≤ need a → cont d = true) ∧ second a b = true then need a else 0
theorem sgn_eq (c : Int) (r : List Int) : sgn (c :: r) = sg (r.length + 1) c (r.getD 0 0) (r.getD 1 0) (r.getD 2 0) := by
  have hl := need_le c
  simp only [sgn, sg]
  split
  · rfl
  · rename_i hn
    have e : (need c - 1 ≤ r.length ∧ ((r.take (need c - 1)).all cont && second c (r.headD 0)) = true) ↔
        (need c ≤ r.length + 1 ∧ cont (r.getD 0 0) = true ∧ (3 ≤ need c → cont (r.getD 1 0) = true) ∧ (4 ≤ need c → cont (r.getD 2 0) = true) ∧ second c (r.getD 0 0) = true) := by
      have h : need c = 2 ∨ need c = 3 ∨ need c = 4 := by omega
      rcases h with h | h | h <;> rw [h] <;> match r with
        | [] => simp
        | [x] => simp
        | [x, y] => simp [and_assoc]
        | x :: y :: z :: t => simp [and_assoc]
    simp only [e]
theorem get_str (l : List Int) (hb : ∀ n ∈ l, 0 ≤ n ∧ n ≤ 255) (i : Nat) : ((strOfNums l).get! i).toNat = (l.getD i 0).toNat := by
  by_cases h : i < l.length
  · have h2 : i < (strOfNums l).size := by rw [strOfNums_size]; exact h
    have hm := hb _ (List.getElem_mem h)
    have : (strOfNums l).get! i = UInt8.ofNat (l[i]).toNat := by
      simp only [ByteArray.get!, strOfNums]
      simp [h]
    rw [this]
    simp [List.getD, h]; omega
  · have : (strOfNums l).get! i = 0 := by
      simp only [ByteArray.get!, strOfNums]
      simp [h]; rfl
    rw [this]
    simp [List.getD, h]
theorem decode_eq (l : List Int) (hb : ∀ n ∈ l, 0 ≤ n ∧ n ≤ 255) (p : Nat) (hp : p < l.length) :
    Utf8.decode (strOfNums l) p = dec (l.length - p) (l.getD p 0).toNat (l.getD (p + 1) 0).toNat (l.getD (p + 2) 0).toNat (l.getD (p + 3) 0).toNat := by
  unfold Utf8.decode dec
  simp only [get_str l hb, strOfNums_size, Nat.add_zero]
  generalize (l.getD p 0).toNat = a
  generalize (l.getD (p + 1) 0).toNat = b
  generalize (l.getD (p + 2) 0).toNat = c
  generalize (l.getD (p + 3) 0).toNat = d
  have e1 : p + 1 < l.length ↔ 1 < l.length - p := by omega
  have e2 : p + 2 < l.length ↔ 2 < l.length - p := by omega
  have e3 : p + 3 < l.length ↔ 3 < l.length - p := by omega
  simp only [e1, e2, e3]
  simp only [Bool.and_eq_true, beq_iff_eq, decide_eq_true_eq, and_assoc, ge_iff_le, Utf8.runeError, Utf8.valid, Bool.or_eq_true]
  split
  · rfl
  · split
    · rfl
    · split
      · have : ((128 : Nat) = 128) := rfl
        congr 1
        simp; omega
      · split
        · congr 1
          simp; omega
        · rfl
theorem need_cases (a : Int) : (need a = 1 ∧ a ≤ 127) ∨ (need a = 2 ∧ 194 ≤ a ∧ a ≤ 223) ∨ (need a = 3 ∧ 224 ≤ a ∧ a ≤ 239) ∨ (need a = 4 ∧ 240 ≤ a ∧ a ≤ 244) ∨ (need a = 0 ∧ 127 < a ∧ (a < 194 ∨ 244 < a)) := by
  unfold need
  (repeat' split) <;> omega
theorem dec_sg (n : Nat) (a b c d : Int) (hn : 1 ≤ n) (ha : 0 ≤ a ∧ a ≤ 255) (hb : 0 ≤ b ∧ b ≤ 255) (hc : 0 ≤ c ∧ c ≤ 255) (hd : 0 ≤ d ∧ d ≤ 255) :
    (sg n a b c d = 0 → dec n a.toNat b.toNat c.toNat d.toNat = (65533, 1) ∧ ¬ (3 ≤ n ∧ a = 239 ∧ b = 191 ∧ c = 189)) ∧
    (0 < sg n a b c d → (dec n a.toNat b.toNat c.toNat d.toNat).2 = sg n a b c d ∧ ((dec n a.toNat b.toNat c.toNat d.toNat).1 = 65533 → (3 ≤ n ∧ a = 239 ∧ b = 191 ∧ c = 189))) := by
  have hk := need_cases a
  obtain ⟨a, rfl⟩ := Int.eq_ofNat_of_zero_le ha.1
  obtain ⟨b, rfl⟩ := Int.eq_ofNat_of_zero_le hb.1
  obtain ⟨c, rfl⟩ := Int.eq_ofNat_of_zero_le hc.1
  obtain ⟨d, rfl⟩ := Int.eq_ofNat_of_zero_le hd.1
  simp only [Int.toNat_natCast]
  rcases hk with ⟨h, hr⟩ | ⟨h, hr⟩ | ⟨h, hr⟩ | ⟨h, hr⟩ | ⟨h, hr⟩
  all_goals
    unfold sg
    rw [h]
    clear h
    refine ⟨fun h => ?_, fun h => ?_⟩
    all_goals
      try simp only [Nat.reduceLeDiff, Nat.le_refl, Nat.zero_le, if_true, if_false, false_implies, true_implies, forall_const, true_and] at h ⊢
      unfold dec
      try unfold second cont at h
      try unfold second cont
      try simp only [Bool.and_eq_true, Bool.not_eq_true', Bool.and_eq_false_iff, decide_eq_true_eq, decide_eq_false_iff_not] at h
      try simp only [Bool.and_eq_true, Bool.not_eq_true', Bool.and_eq_false_iff, decide_eq_true_eq, decide_eq_false_iff_not]
      (repeat' split at h) <;> (repeat' split) <;> (refine ⟨?_, ?_⟩) <;> first | rfl | omega | (simp only [Prod.mk.injEq]; omega) | (dsimp only; omega)
theorem getD_range (l : List Int) (hb : ∀ n ∈ l, 0 ≤ n ∧ n ≤ 255) (i : Nat) : 0 ≤ l.getD i 0 ∧ l.getD i 0 ≤ 255 := by
  by_cases h : i < l.length
  · have := hb _ (List.getElem_mem h); simpa [List.getD, h] using this
  · simp [List.getD, h]
/-- What one round of 'range' sees at a place. -/
theorem round_at (l : List Int) (hb : ∀ n ∈ l, 0 ≤ n ∧ n ≤ 255) (p : Nat) (hp : p < l.length) :
    ∃ c k : Nat, Utf8.decode (strOfNums l) p = (c, k) ∧
      ((sgn (l.drop p) = 0 ∧ c = 65533 ∧ ¬ (p + 3 ≤ l.length ∧ l.getD p 0 = 239 ∧ l.getD (p + 1) 0 = 191 ∧ l.getD (p + 2) 0 = 189)) ∨
       (0 < sgn (l.drop p) ∧ k = sgn (l.drop p) ∧ (c = 65533 → (p + 3 ≤ l.length ∧ l.getD p 0 = 239 ∧ l.getD (p + 1) 0 = 191 ∧ l.getD (p + 2) 0 = 189)))) := by
  have hd := List.drop_eq_getElem_cons hp
  have e : sgn (l.drop p) = sg (l.length - p) (l.getD p 0) (l.getD (p + 1) 0) (l.getD (p + 2) 0) (l.getD (p + 3) 0) := by
    rw [hd, sgn_eq]
    have g (j : Nat) : (l.drop (p + 1)).getD j 0 = l.getD (p + 1 + j) 0 := by simp [List.getD]
    rw [g 0, g 1, g 2]
    have h0 : l[p] = l.getD p 0 := by simp [List.getD, hp]
    rw [h0, List.length_drop, show l.length - (p + 1) + 1 = l.length - p by omega]
  rw [decode_eq l hb p hp, e]
  obtain ⟨s1, s2⟩ := dec_sg (l.length - p) _ _ _ _ (by omega) (getD_range l hb p) (getD_range l hb (p + 1)) (getD_range l hb (p + 2)) (getD_range l hb (p + 3))
  refine ⟨_, _, rfl, ?_⟩
  by_cases hz : sg (l.length - p) (l.getD p 0) (l.getD (p + 1) 0) (l.getD (p + 2) 0) (l.getD (p + 3) 0) = 0
  · obtain ⟨t1, t2⟩ := s1 hz
    exact .inl ⟨hz, congrArg Prod.fst t1, fun ⟨q1, q2⟩ => t2 ⟨by omega, q2⟩⟩
  · obtain ⟨t1, t2⟩ := s2 (by omega)
    exact .inr ⟨by omega, t1, fun hc => by obtain ⟨q1, q2⟩ := t2 hc; exact ⟨by omega, q2⟩⟩
/-- Three bytes of a text are those of the sign U+FFFD just if they are. -/
theorem ext3 (l : List Int) (hb : ∀ n ∈ l, 0 ≤ n ∧ n ≤ 255) (p : Nat) (hp : p + 3 ≤ l.length) :
    (((strOfNums l).extract p (p + 3)).toList == [239, 191, 189]) = decide (l.getD p 0 = 239 ∧ l.getD (p + 1) 0 = 191 ∧ l.getD (p + 2) 0 = 189) := by
  have e : ((strOfNums l).extract p (p + 3)).toList = [UInt8.ofNat (l.getD p 0).toNat, UInt8.ofNat (l.getD (p + 1) 0).toNat, UInt8.ofNat (l.getD (p + 2) 0).toNat] := by
    rw [Lib.extract_toList, strOfNums_data]
    have h0 : p < l.length := by omega
    have h1 : p + 1 < l.length := by omega
    have h2 : p + 2 < l.length := by omega
    apply List.ext_getElem
    · simp; omega
    · intro i hi1 hi2
      simp only [List.length_cons, List.length_nil] at hi2
      have : i = 0 ∨ i = 1 ∨ i = 2 := by omega
      rcases this with rfl | rfl | rfl <;> simp [List.getD, h0, h1, h2]
  rw [e]
  have r0 := getD_range l hb p
  have r1 := getD_range l hb (p + 1)
  have r2 := getD_range l hb (p + 2)
  have key (n : Int) (hn : 0 ≤ n ∧ n ≤ 255) (m : Nat) (hm : m ≤ 255) : UInt8.ofNat n.toNat = UInt8.ofNat m ↔ n = m := by
    rw [← UInt8.toNat_inj]
    simp; omega
  rw [Bool.eq_iff_iff]
  simp only [beq_iff_eq, List.cons.injEq, and_true, decide_eq_true_eq]
  rw [show (239 : UInt8) = UInt8.ofNat 239 from rfl, show (191 : UInt8) = UInt8.ofNat 191 from rfl, show (189 : UInt8) = UInt8.ofNat 189 from rfl,
    key _ r0 239 (by omega), key _ r1 191 (by omega), key _ r2 189 (by omega)]
  simp
/-- A sign at a place, byte by byte. -/
theorem sgn_at (l : List Int) (p : Nat) (hp : p < l.length) (n : Nat) (hn : need (l.getD p 0) = n) :
    (n ≤ 1 → sgn (l.drop p) = n) ∧ (1 < n → (p + n ≤ l.length ∧ (∀ j, 1 ≤ j → j < n → cont (l.getD (p + j) 0) = true) ∧ second (l.getD p 0) (l.getD (p + 1) 0) = true) → sgn (l.drop p) = n) ∧
    (1 < n → ¬ (p + n ≤ l.length ∧ (∀ j, 1 ≤ j → j < n → cont (l.getD (p + j) 0) = true) ∧ second (l.getD p 0) (l.getD (p + 1) 0) = true) → sgn (l.drop p) = 0) := by
  have hd := List.drop_eq_getElem_cons hp
  have e : sgn (l.drop p) = sg (l.length - p) (l.getD p 0) (l.getD (p + 1) 0) (l.getD (p + 2) 0) (l.getD (p + 3) 0) := by
    rw [hd, sgn_eq]
    have g (j : Nat) : (l.drop (p + 1)).getD j 0 = l.getD (p + 1 + j) 0 := by simp [List.getD]
    rw [g 0, g 1, g 2]
    have h0 : l[p] = l.getD p 0 := by simp [List.getD, hp]
    rw [h0, List.length_drop, show l.length - (p + 1) + 1 = l.length - p by omega]
  have h4 := need_le (l.getD p 0)
  rw [e]
  unfold sg
  rw [hn] at h4 ⊢
  refine ⟨fun h => by rw [if_pos h], fun h1 h2 => ?_, fun h1 h2 => ?_⟩
  all_goals
    rw [if_neg (by omega)]
    have : (n ≤ l.length - p ∧ cont (l.getD (p + 1) 0) = true ∧ (3 ≤ n → cont (l.getD (p + 2) 0) = true) ∧ (4 ≤ n → cont (l.getD (p + 3) 0) = true) ∧ second (l.getD p 0) (l.getD (p + 1) 0) = true) ↔
        (p + n ≤ l.length ∧ (∀ j, 1 ≤ j → j < n → cont (l.getD (p + j) 0) = true) ∧ second (l.getD p 0) (l.getD (p + 1) 0) = true) := by
      constructor
      · rintro ⟨q1, q2, q3, q4, q5⟩
        refine ⟨by omega, ?_, q5⟩
        intro j j1 j2
        have : j = 1 ∨ j = 2 ∨ j = 3 := by omega
        rcases this with rfl | rfl | rfl
        · exact q2
        · exact q3 (by omega)
        · exact q4 (by omega)
      · rintro ⟨q1, q2, q3⟩
        exact ⟨by omega, q2 1 (by omega) (by omega), fun h => q2 2 (by omega) (by omega), fun h => q2 3 (by omega) (by omega), q3⟩
    first | rw [if_pos (this.2 h2)] | rw [if_neg (fun q => h2 (this.1 q))]
end Go.Utf
