/- What record.Next tells, in plain Lean: places, and that there is an answer. -/
import Derived.Test.YtlokcpfkaijchaaPAx7
import Derived.Test.YtlokcpfkaijchaaGKnown
import Derived.IntWalk
namespace Go.Proofs.Ytlokcpfkaijchaa.PA
open Go.RowKit Go.Proofs.YtlokcpfkaijchaaW.PrintWords Go.Proofs.YtlokcpfkaijchaaW.PrintLast Go.Proofs.YtlokcpfkaijchaaW.PrintMore
set_option linter.unusedVariables false
set_option linter.unusedSimpArgs false
theorem w64 {n : Int} (h0 : -9223372036854775808 ≤ n) (h1 : n ≤ 9223372036854775807) : wrap64 n = n := IntWalk.wrap64_in n ⟨h0, h1⟩
theorem bits_in (op : BinOp) (x y : Int) : 0 ≤ Go.bits op .u64 x y ∧ Go.bits op .u64 x y < 18446744073709551616 := by
  unfold Go.bits
  split <;> (rw [IntKind.wrap_u64]; omega)
/-- The loop of varint.Get: what it tells, and where it ends. -/
theorem get_loop (b : List Int) (a1 a2 : Int) (h0 : 0 ≤ a1) (h1 : a1 ≤ a2) (h2 : a2 ≤ b.length) (hb : b.length ≤ 1000000000) : ∀ (j k : Nat) (x : Int) (i : Int), 0 ≤ i → i ≤ 10 → 10 - i < j → j ≤ k → a1 + i ≤ a2 →
    ∃ v p e, varint_Get.l0 k b a1 a2 x i = some (v, p, e) ∧ (e = 0 → a1 + 1 ≤ p ∧ p ≤ a2) ∧ 0 ≤ v ∧ v < 18446744073709551616 := by
  intro j
  induction j with
  | zero => intro k x i hi h10 hj hk hle; omega
  | succ j ih =>
    intro k x i hi h10 hj hk hle
    obtain ⟨k, rfl⟩ : ∃ m, k = m + 1 := ⟨k - 1, by omega⟩
    rw [varint_Get.l0]
    have e1 : wrap64 (a1 + i) = a1 + i := w64 (by omega) (by omega)
    have e2 : wrap64 (7 * i) = 7 * i := w64 (by omega) (by omega)
    have e3 : wrap64 (i + 1) = i + 1 := w64 (by omega) (by omega)
    have e4 : wrap64 (a1 + i + 1) = a1 + i + 1 := w64 (by omega) (by omega)
    rw [e1, e2, e3, e4]
    by_cases c1 : i < 10
    · rw [if_pos c1]
      by_cases c2 : a1 + i = a2
      · rw [if_pos c2]
        exact ⟨0, 0, 6, rfl, fun h => absurd h (by decide), by decide, by decide⟩
      · rw [if_neg c2, if_pos (by omega), if_pos (by omega), if_pos (by omega)]
        split
        · exact ⟨_, _, _, rfl, fun _ => ⟨by omega, by omega⟩, bits_in _ _ _⟩
        · exact ih k _ (i + 1) (by omega) (by omega) (by omega) (by omega) (by omega)
    · rw [if_neg c1]
      exact ⟨0, 0, 7, rfl, fun h => absurd h (by decide), by decide, by decide⟩
theorem may_true (b : List Int) (a1 a2 : Int) (h0 : 0 ≤ a1) (h1 : a1 ≤ a2) (h2 : a2 ≤ b.length) : varint_may.f b a1 a2 = some true := by
  unfold varint_may.f
  rw [if_pos (by omega), if_pos (by omega), decide_eq_true (by omega)]
/-- varint.Get. -/
theorem get_tells (b : List Int) (a1 a2 : Int) (h0 : 0 ≤ a1) (h1 : a1 ≤ a2) (h2 : a2 ≤ b.length) (hb : b.length ≤ 1000000000) (k : Nat) (hk : 11 ≤ k) :
    ∃ v p e, varint_Get.f k b a1 a2 = some (v, p, e) ∧ (e = 0 → a1 + 1 ≤ p ∧ p ≤ a2) ∧ 0 ≤ v ∧ v < 18446744073709551616 := by
  unfold varint_Get.f
  rw [may_true b a1 a2 h0 h1 h2, Option.bind_some, if_pos rfl]
  exact get_loop b a1 a2 h0 h1 h2 hb 11 k 0 0 (by omega) (by omega) (by omega) hk (by omega)
/-- tag.Get. -/
theorem tag_tells (b : List Int) (a1 a2 : Int) (h0 : 0 ≤ a1) (h1 : a1 ≤ a2) (h2 : a2 ≤ b.length) (hb : b.length ≤ 1000000000) (k : Nat) (hk : 11 ≤ k) :
    ∃ no wire p e, tag_Get.f k b a1 a2 = some (no, wire, p, e) ∧ (e = 0 → a1 + 1 ≤ p ∧ p ≤ a2) := by
  obtain ⟨v, p, e, hg, he, hv⟩ := get_tells b a1 a2 h0 h1 h2 hb k hk
  obtain ⟨k, rfl⟩ : ∃ m, k = m + 1 := ⟨k - 1, by omega⟩
  unfold tag_Get.f
  rw [hg]
  simp only [Option.bind_some, tag_of.f]
  by_cases c : e = 0
  · rw [if_pos c]
    have key : ∀ t x y, ∃ no wire p' e', tag_Get.j0 (k + 1) p t x y = some (no, wire, p', e') ∧ (e' = 0 → a1 + 1 ≤ p' ∧ p' ≤ a2) := by
      intro t x y
      rw [tag_Get.j0]
      split
      · exact ⟨0, 0, 0, 9, rfl, fun h => absurd h (by decide)⟩
      · unfold tag_Known.f
        rw [Option.bind_some]
        split
        · exact ⟨_, _, _, _, rfl, fun _ => he c⟩
        · exact ⟨0, 0, 0, 8, rfl, fun h => absurd h (by decide)⟩
    split <;> exact key _ _ _
  · rw [if_neg c]
    exact ⟨0, 0, 0, e, rfl, fun h => absurd h c⟩
/-- varint.Unfix. -/
theorem unfix_loop (b : List Int) (a1 a3 : Int) (h0 : 0 ≤ a1) (h2 : a1 + a3 ≤ b.length) (hb : b.length ≤ 1000000000) (h3 : 0 ≤ a3 ∧ a3 ≤ 8) : ∀ (j k : Nat) (x : Int) (i : Int), 0 ≤ i → i ≤ a3 → a3 - i < j → j ≤ k → 0 ≤ x ∧ x < 18446744073709551616 →
    ∃ v, varint_Unfix.l0 k b a1 a3 x a3 i = some (v, a1 + a3, 0) ∧ 0 ≤ v ∧ v < 18446744073709551616 := by
  intro j
  induction j with
  | zero => intro k x i hi h10 hj hk hx; omega
  | succ j ih =>
    intro k x i hi h10 hj hk hx
    obtain ⟨k, rfl⟩ : ∃ m, k = m + 1 := ⟨k - 1, by omega⟩
    rw [varint_Unfix.l0]
    have e1 : wrap64 (a1 + i) = a1 + i := w64 (by omega) (by omega)
    have e2 : wrap64 (8 * i) = 8 * i := w64 (by omega) (by omega)
    have e3 : wrap64 (i + 1) = i + 1 := w64 (by omega) (by omega)
    have e4 : wrap64 (a1 + a3) = a1 + a3 := w64 (by omega) (by omega)
    rw [e1, e2, e3, e4]
    by_cases c1 : i < a3
    · rw [if_pos c1, if_pos (by omega), if_pos (by omega), if_pos (by omega)]
      exact ih k _ (i + 1) (by omega) (by omega) (by omega) (by omega) (bits_in _ _ _)
    · rw [if_neg c1]
      exact ⟨x, rfl, hx⟩
theorem unfix_tells (b : List Int) (a1 a2 : Int) (h0 : 0 ≤ a1) (h1 : a1 ≤ a2) (h2 : a2 ≤ b.length) (hb : b.length ≤ 1000000000) (k : Nat) (hk : 11 ≤ k) (a3 : Int) (h3 : a3 = 4 ∨ a3 = 8) :
    ∃ v p e, varint_Unfix.f k b a1 a2 a3 = some (v, p, e) ∧ (e = 0 → a1 + 1 ≤ p ∧ p ≤ a2) ∧ 0 ≤ v ∧ v < 18446744073709551616 := by
  obtain ⟨k, rfl⟩ : ∃ m, k = m + 1 := ⟨k - 1, by omega⟩
  unfold varint_Unfix.f
  have hs : varint_sized.f a3 = some true := by
    unfold varint_sized.f
    rcases h3 with rfl | rfl <;> rfl
  rw [may_true b a1 a2 h0 h1 h2, Option.bind_some, if_pos rfl, hs, Option.bind_some]
  simp only [Bool.not_true]
  rw [varint_Unfix.j0, if_neg (by decide), w64 (by omega) (by omega)]
  split
  · exact ⟨0, 0, 6, rfl, fun h => absurd h (by decide), by decide, by decide⟩
  · obtain ⟨v, hv, hin⟩ := unfix_loop b a1 a3 h0 (by omega) hb (by omega) 9 k 0 0 (by omega) (by omega) (by omega) (by omega) (by decide)
    exact ⟨v, _, 0, hv, fun _ => by omega, hin⟩
/-- record.number. -/
theorem number_tells (b : List Int) (a1 a2 : Int) (h0 : 0 ≤ a1) (h1 : a1 ≤ a2) (h2 : a2 ≤ b.length) (hb : b.length ≤ 1000000000) (k : Nat) (hk : 11 ≤ k) (w : Int) :
    ∃ v p e, record_number.f k b a1 a2 w = some (v, p, e) ∧ (e = 0 → a1 + 1 ≤ p ∧ p ≤ a2) ∧ 0 ≤ v ∧ v < 18446744073709551616 := by
  unfold record_number.f
  split
  · obtain ⟨v, p, e, hg, h⟩ := unfix_tells b a1 a2 h0 h1 h2 hb k hk 8 (Or.inr rfl)
    rw [hg]
    exact ⟨v, p, e, rfl, h⟩
  · split
    · obtain ⟨v, p, e, hg, h⟩ := unfix_tells b a1 a2 h0 h1 h2 hb k hk 4 (Or.inl rfl)
      rw [hg]
      exact ⟨v, p, e, rfl, h⟩
    · obtain ⟨v, p, e, hg, h⟩ := get_tells b a1 a2 h0 h1 h2 hb k hk
      rw [hg]
      exact ⟨v, p, e, rfl, h⟩
/-- record.Next: it answers; a record's places. -/
theorem next_tells (b : List Int) (a1 a2 : Int) (h0 : 0 ≤ a1) (h1 : a1 ≤ a2) (h2 : a2 ≤ b.length) (hb : b.length ≤ 1000000000) (k : Nat) (hk : 11 ≤ k) :
    ∃ no wire num from_ upto next e, record_Next.f k b a1 a2 = some (no, wire, num, from_, upto, next, e) ∧
      (e = 0 → a1 + 1 ≤ from_ ∧ a1 + 2 ≤ next ∧ from_ ≤ upto ∧ upto = next ∧ next ≤ a2 ∧ (wire = 2 → a1 + 2 ≤ from_) ∧ 0 ≤ num ∧ num < 18446744073709551616) := by
  obtain ⟨no, wire, p, e, ht, he⟩ := tag_tells b a1 a2 h0 h1 h2 hb k hk
  unfold record_Next.f
  rw [ht]
  simp only [Option.bind_some]
  by_cases c : e = 0
  · rw [if_pos c]
    obtain ⟨p1, p2⟩ := he c
    obtain ⟨v, q, e2, hn, hq, hv⟩ := number_tells b p a2 (by omega) (by omega) h2 hb k hk wire
    rw [hn]
    simp only [Option.bind_some]
    by_cases c2 : e2 = 0
    · rw [if_pos c2]
      obtain ⟨q1, q2⟩ := hq c2
      by_cases c3 : wire = 2
      · rw [if_pos c3, w64 (n := a2 - q) (by omega) (by omega), IntWalk.u64_in _ (by omega)]
        split
        · exact ⟨0, 0, 0, 0, 0, 0, 6, rfl, fun h => absurd h (by decide)⟩
        · rw [w64 (n := v) (by omega) (by omega), w64 (n := q + v) (by omega) (by omega)]
          exact ⟨_, _, _, _, _, _, _, rfl, fun _ => ⟨by omega, by omega, by omega, rfl, by omega, fun _ => by omega, hv⟩⟩
      · rw [if_neg c3]
        exact ⟨_, _, _, _, _, _, _, rfl, fun _ => ⟨by omega, by omega, by omega, rfl, by omega, fun h => absurd h c3, hv⟩⟩
    · rw [if_neg c2]
      exact ⟨0, 0, 0, 0, 0, 0, e2, rfl, fun h => absurd h c2⟩
  · rw [if_neg c]
    exact ⟨0, 0, 0, 0, 0, 0, e, rfl, fun h => absurd h c⟩
end Go.Proofs.Ytlokcpfkaijchaa.PA
