/- What is read of a window of bytes hangs on these bytes alone: numbers, tags, records, lists of numbers, texts. -/
import Derived.Test.YtlokcpfkaijchaaPStep
namespace Go.Proofs.Ytlokcpfkaijchaa.PA
open Go.RowKit Go.Proofs.YtlokcpfkaijchaaW.PrintWords Go.Proofs.YtlokcpfkaijchaaW.PrintLast Go.Proofs.YtlokcpfkaijchaaW.PrintMore
set_option linter.unusedVariables false
set_option linter.unusedSimpArgs false
/-- The bytes of b between two places are those of c, so many places on. -/
def Win (b c : List Int) (d lo hi : Int) : Prop := ∀ i : Int, lo ≤ i → i < hi → rd b i = rd c (i + d)
theorem Win.sub {b c : List Int} {d lo hi lo' hi' : Int} (h : Win b c d lo hi) (h1 : lo ≤ lo') (h2 : hi' ≤ hi) : Win b c d lo' hi' := fun i a e => h i (by omega) (by omega)
/-- A window of b, one of c: the latter may go on behind the former. -/
structure Two (b c : List Int) (d a1 a2 a2' : Int) : Prop where
  win : Win b c d a1 a2
  h0 : 0 ≤ a1
  h1 : a1 ≤ a2
  h2 : a2 ≤ b.length
  hb : b.length ≤ 1000000000
  h3 : 0 ≤ a1 + d
  h4 : a2 + d ≤ a2'
  h5 : a2' ≤ c.length
  hc : c.length ≤ 1000000000
theorem Two.on {b c : List Int} {d a1 a2 a2' p : Int} (h : Two b c d a1 a2 a2') (h1 : a1 ≤ p) (h2 : p ≤ a2) : Two b c d p a2 a2' := by
  obtain ⟨w, h0, k1, k2, hb, h3, h4, h5, hc⟩ := h
  exact ⟨w.sub h1 (Int.le_refl _), by omega, h2, k2, hb, by omega, h4, h5, hc⟩
theorem get_loop_win {b c : List Int} {d a1 a2 a2' : Int} (T : Two b c d a1 a2 a2') : ∀ (j k k' : Nat) (x i v p e v' p' e' : Int), 0 ≤ i → i ≤ 10 → 10 - i < j → j ≤ k → j ≤ k' → a1 + i ≤ a2 →
    varint_Get.l0 k b a1 a2 x i = some (v, p, e) → varint_Get.l0 k' c (a1 + d) a2' x i = some (v', p', e') →
    (e = 0 → v' = v ∧ p' = p + d ∧ e' = 0) ∧ (e ≠ 0 → e' = e ∨ (e = 6 ∧ a2 + d < a2')) := by
  obtain ⟨hw, h0, h1, h2, hb, h3, h4, h5, hc⟩ := T
  intro j
  induction j with
  | zero => intro k k' x i v p e v' p' e' hi h10 hj; omega
  | succ j ih =>
    intro k k' x i v p e v' p' e' hi h10 hj hk hk' hle h h'
    obtain ⟨k, rfl⟩ : ∃ m, k = m + 1 := ⟨k - 1, by omega⟩
    obtain ⟨k', rfl⟩ : ∃ m, k' = m + 1 := ⟨k' - 1, by omega⟩
    rw [varint_Get.l0] at h h'
    rw [w64 (n := a1 + i) (by omega) (by omega), w64 (n := 7 * i) (by omega) (by omega), w64 (n := i + 1) (by omega) (by omega), w64 (n := a1 + i + 1) (by omega) (by omega)] at h
    rw [w64 (n := a1 + d + i) (by omega) (by omega), w64 (n := 7 * i) (by omega) (by omega), w64 (n := i + 1) (by omega) (by omega), w64 (n := a1 + d + i + 1) (by omega) (by omega)] at h'
    by_cases c1 : i < 10
    · rw [if_pos c1] at h h'
      by_cases c2 : a1 + i = a2
      · rw [if_pos c2] at h
        cases h
        refine ⟨fun h => absurd h (by decide), fun _ => ?_⟩
        by_cases c3 : a1 + d + i = a2'
        · rw [if_pos c3] at h'
          cases h'
          exact Or.inl rfl
        · exact Or.inr ⟨rfl, by omega⟩
      · rw [if_neg c2, if_pos (by omega), if_pos (by omega), if_pos (by omega)] at h
        rw [if_neg (by omega), if_pos (by omega), if_pos (by omega), if_pos (by omega)] at h'
        have e1 : rd c (a1 + d + i) = rd b (a1 + i) := by rw [hw (a1 + i) (by omega) (by omega)]; congr 1; omega
        rw [e1] at h'
        split at h
        · rename_i c4
          rw [if_pos c4] at h'
          cases h
          cases h'
          exact ⟨fun _ => ⟨rfl, by omega, rfl⟩, fun h => absurd rfl h⟩
        · rename_i c4
          rw [if_neg c4] at h'
          exact ih k k' _ (i + 1) _ _ _ _ _ _ (by omega) (by omega) (by omega) (by omega) (by omega) (by omega) h h'
    · rw [if_neg c1] at h h'
      cases h
      cases h'
      exact ⟨fun h => absurd h (by decide), fun _ => Or.inl rfl⟩
theorem get_win {b c : List Int} {d a1 a2 a2' : Int} (T : Two b c d a1 a2 a2') (k k' : Nat) (hk : 11 ≤ k) (hk' : 11 ≤ k') (v p e v' p' e' : Int)
    (h : varint_Get.f k b a1 a2 = some (v, p, e)) (h' : varint_Get.f k' c (a1 + d) a2' = some (v', p', e')) :
    (e = 0 → v' = v ∧ p' = p + d ∧ e' = 0) ∧ (e ≠ 0 → e' = e ∨ (e = 6 ∧ a2 + d < a2')) := by
  have T0 := T
  obtain ⟨hw, h0, h1, h2, hb, h3, h4, h5, hc⟩ := T
  unfold varint_Get.f at h h'
  rw [may_true b a1 a2 h0 h1 h2, Option.bind_some, if_pos rfl] at h
  rw [may_true c (a1 + d) a2' h3 (by omega) h5, Option.bind_some, if_pos rfl] at h'
  exact get_loop_win T0 11 k k' 0 0 _ _ _ _ _ _ (by omega) (by omega) (by omega) hk hk' (by omega) h h'
theorem tag_win {b c : List Int} {d a1 a2 a2' : Int} (T : Two b c d a1 a2 a2') (k k' : Nat) (hk : 11 ≤ k) (hk' : 11 ≤ k') (no wire p e no' wire' p' e' : Int)
    (h : tag_Get.f k b a1 a2 = some (no, wire, p, e)) (h' : tag_Get.f k' c (a1 + d) a2' = some (no', wire', p', e')) :
    (e = 0 → no' = no ∧ wire' = wire ∧ p' = p + d ∧ e' = 0) ∧ (e ≠ 0 → e' = e ∨ (e = 6 ∧ a2 + d < a2')) := by
  have T0 := T
  obtain ⟨hw, h0, h1, h2, hb, h3, h4, h5, hc⟩ := T
  obtain ⟨v, q, x, hg, -, -⟩ := get_tells b a1 a2 h0 h1 h2 hb k hk
  obtain ⟨v', q', x', hg', -, -⟩ := get_tells c (a1 + d) a2' h3 (by omega) h5 hc k' hk'
  obtain ⟨g0, g1⟩ := get_win T0 k k' hk hk' _ _ _ _ _ _ hg hg'
  obtain ⟨k, rfl⟩ : ∃ m, k = m + 1 := ⟨k - 1, by omega⟩
  obtain ⟨k', rfl⟩ : ∃ m, k' = m + 1 := ⟨k' - 1, by omega⟩
  unfold tag_Get.f at h h'
  rw [hg] at h
  rw [hg'] at h'
  simp only [Option.bind_some, tag_of.f] at h h'
  by_cases c0 : x = 0
  · obtain ⟨rfl, rfl, rfl⟩ := g0 c0
    rw [if_pos c0] at h
    rw [if_pos rfl] at h'
    have key : ∀ t y z, tag_Get.j0 (k + 1) q t y z = some (no, wire, p, e) → tag_Get.j0 (k' + 1) (q + d) t y z = some (no', wire', p', e') →
        (e = 0 → no' = no ∧ wire' = wire ∧ p' = p + d ∧ e' = 0) ∧ (e ≠ 0 → e' = e ∨ (e = 6 ∧ a2 + d < a2')) := by
      intro t y z h h'
      rw [tag_Get.j0] at h h'
      split at h
      · rename_i c1
        rw [if_pos c1] at h'
        cases h; cases h'
        exact ⟨fun h => absurd h (by decide), fun _ => Or.inl rfl⟩
      · rename_i c1
        rw [if_neg c1] at h'
        unfold tag_Known.f at h h'
        rw [Option.bind_some] at h h'
        split at h
        · rename_i c2
          rw [if_pos c2] at h'
          cases h; cases h'
          exact ⟨fun _ => ⟨rfl, rfl, rfl, rfl⟩, fun h => absurd rfl h⟩
        · rename_i c2
          rw [if_neg c2] at h'
          cases h; cases h'
          exact ⟨fun h => absurd h (by decide), fun _ => Or.inl rfl⟩
    split at h
    · rename_i c1
      rw [if_pos c1] at h'
      exact key _ _ _ h h'
    · rename_i c1
      rw [if_neg c1] at h'
      exact key _ _ _ h h'
  · rw [if_neg c0] at h
    cases h
    refine ⟨fun h => absurd h c0, fun _ => ?_⟩
    rcases g1 c0 with rfl | g
    · rw [if_neg c0] at h'
      cases h'
      exact Or.inl rfl
    · exact Or.inr g
theorem unfix_loop_win {b c : List Int} {d a1 a2 a2' a3 : Int} (T : Two b c d a1 a2 a2') (h3 : 0 ≤ a3 ∧ a3 ≤ 8) (ha : a1 + a3 ≤ a2) : ∀ (j k k' : Nat) (x i v p e v' p' e' : Int), 0 ≤ i → i ≤ a3 → a3 - i < j → j ≤ k → j ≤ k' →
    varint_Unfix.l0 k b a1 a3 x a3 i = some (v, p, e) → varint_Unfix.l0 k' c (a1 + d) a3 x a3 i = some (v', p', e') → v' = v ∧ p' = p + d ∧ e' = 0 ∧ e = 0 := by
  obtain ⟨hw, h0, h1, h2, hb, g3, h4, h5, hc⟩ := T
  intro j
  induction j with
  | zero => intro k k' x i v p e v' p' e' hi h10 hj; omega
  | succ j ih =>
    intro k k' x i v p e v' p' e' hi h10 hj hk hk' h h'
    obtain ⟨k, rfl⟩ : ∃ m, k = m + 1 := ⟨k - 1, by omega⟩
    obtain ⟨k', rfl⟩ : ∃ m, k' = m + 1 := ⟨k' - 1, by omega⟩
    rw [varint_Unfix.l0] at h h'
    rw [w64 (n := a1 + i) (by omega) (by omega), w64 (n := 8 * i) (by omega) (by omega), w64 (n := i + 1) (by omega) (by omega), w64 (n := a1 + a3) (by omega) (by omega)] at h
    rw [w64 (n := a1 + d + i) (by omega) (by omega), w64 (n := 8 * i) (by omega) (by omega), w64 (n := i + 1) (by omega) (by omega), w64 (n := a1 + d + a3) (by omega) (by omega)] at h'
    by_cases c1 : i < a3
    · rw [if_pos c1, if_pos (by omega), if_pos (by omega), if_pos (by omega)] at h
      rw [if_pos c1, if_pos (by omega), if_pos (by omega), if_pos (by omega)] at h'
      have e1 : rd c (a1 + d + i) = rd b (a1 + i) := by rw [hw (a1 + i) (by omega) (by omega)]; congr 1; omega
      rw [e1] at h'
      exact ih k k' _ (i + 1) _ _ _ _ _ _ (by omega) (by omega) (by omega) (by omega) (by omega) h h'
    · rw [if_neg c1] at h h'
      cases h; cases h'
      exact ⟨rfl, by omega, rfl, rfl⟩
theorem unfix_win {b c : List Int} {d a1 a2 a2' : Int} (T : Two b c d a1 a2 a2') (k k' : Nat) (hk : 11 ≤ k) (hk' : 11 ≤ k') (a3 : Int) (h3 : a3 = 4 ∨ a3 = 8) (v p e v' p' e' : Int)
    (h : varint_Unfix.f k b a1 a2 a3 = some (v, p, e)) (h' : varint_Unfix.f k' c (a1 + d) a2' a3 = some (v', p', e')) :
    (e = 0 → v' = v ∧ p' = p + d ∧ e' = 0) ∧ (e ≠ 0 → e' = e ∨ (e = 6 ∧ a2 + d < a2')) := by
  have T0 := T
  obtain ⟨hw, h0, h1, h2, hb, g3, h4, h5, hc⟩ := T
  obtain ⟨k, rfl⟩ : ∃ m, k = m + 1 := ⟨k - 1, by omega⟩
  obtain ⟨k', rfl⟩ : ∃ m, k' = m + 1 := ⟨k' - 1, by omega⟩
  unfold varint_Unfix.f at h h'
  have hs : varint_sized.f a3 = some true := by
    unfold varint_sized.f
    rcases h3 with rfl | rfl <;> rfl
  rw [may_true b a1 a2 h0 h1 h2, Option.bind_some, if_pos rfl, hs, Option.bind_some] at h
  rw [may_true c (a1 + d) a2' g3 (by omega) h5, Option.bind_some, if_pos rfl, hs, Option.bind_some] at h'
  simp only [Bool.not_true] at h h'
  rw [varint_Unfix.j0, if_neg (by decide), w64 (by omega) (by omega)] at h
  rw [varint_Unfix.j0, if_neg (by decide), w64 (by omega) (by omega)] at h'
  by_cases c1 : a2 - a1 < a3
  · rw [if_pos c1] at h
    cases h
    refine ⟨fun h => absurd h (by decide), fun _ => ?_⟩
    by_cases c2 : a2' - (a1 + d) < a3
    · rw [if_pos c2] at h'
      cases h'
      exact Or.inl rfl
    · exact Or.inr ⟨rfl, by omega⟩
  · rw [if_neg c1] at h
    rw [if_neg (by omega)] at h'
    obtain ⟨q1, q2, q3, q4⟩ := unfix_loop_win T0 (by omega) (by omega) 9 k k' 0 0 _ _ _ _ _ _ (by omega) (by omega) (by omega) (by omega) (by omega) h h'
    exact ⟨fun _ => ⟨q1, q2, q3⟩, fun h => absurd q4 h⟩
theorem number_win {b c : List Int} {d a1 a2 a2' : Int} (T : Two b c d a1 a2 a2') (k k' : Nat) (hk : 11 ≤ k) (hk' : 11 ≤ k') (w v p e v' p' e' : Int)
    (h : record_number.f k b a1 a2 w = some (v, p, e)) (h' : record_number.f k' c (a1 + d) a2' w = some (v', p', e')) :
    (e = 0 → v' = v ∧ p' = p + d ∧ e' = 0) ∧ (e ≠ 0 → e' = e ∨ (e = 6 ∧ a2 + d < a2')) := by
  have T0 := T
  obtain ⟨hw, h0, h1, h2, hb, g3, h4, h5, hc⟩ := T
  unfold record_number.f at h h'
  have un : ∀ a3, (a3 = 4 ∨ a3 = 8) → ((varint_Unfix.f k b a1 a2 a3).bind fun t => some (t.1, t.2.1, t.2.2)) = some (v, p, e) → ((varint_Unfix.f k' c (a1 + d) a2' a3).bind fun t => some (t.1, t.2.1, t.2.2)) = some (v', p', e') →
      (e = 0 → v' = v ∧ p' = p + d ∧ e' = 0) ∧ (e ≠ 0 → e' = e ∨ (e = 6 ∧ a2 + d < a2')) := by
    intro a3 ha h h'
    obtain ⟨x, y, z, hu, -⟩ := unfix_tells b a1 a2 h0 h1 h2 hb k hk a3 ha
    obtain ⟨x', y', z', hu', -⟩ := unfix_tells c (a1 + d) a2' g3 (by omega) h5 hc k' hk' a3 ha
    rw [hu] at h
    rw [hu'] at h'
    cases h; cases h'
    exact unfix_win T0 k k' hk hk' a3 ha _ _ _ _ _ _ hu hu'
  split at h
  · rename_i c1
    rw [if_pos c1] at h'
    exact un 8 (Or.inr rfl) h h'
  · rename_i c1
    rw [if_neg c1] at h'
    split at h
    · rename_i c2
      rw [if_pos c2] at h'
      exact un 4 (Or.inl rfl) h h'
    · rename_i c2
      rw [if_neg c2] at h'
      obtain ⟨x, y, z, hu, -⟩ := get_tells b a1 a2 h0 h1 h2 hb k hk
      obtain ⟨x', y', z', hu', -⟩ := get_tells c (a1 + d) a2' g3 (by omega) h5 hc k' hk'
      rw [hu] at h
      rw [hu'] at h'
      cases h; cases h'
      exact get_win T0 k k' hk hk' _ _ _ _ _ _ hu hu'
/-- record.Next. -/
theorem next_win {b c : List Int} {d a1 a2 a2' : Int} (T : Two b c d a1 a2 a2') (k k' : Nat) (hk : 11 ≤ k) (hk' : 11 ≤ k') (no wire num from_ upto next e no' wire' num' from' upto' next' e' : Int)
    (h : record_Next.f k b a1 a2 = some (no, wire, num, from_, upto, next, e)) (h' : record_Next.f k' c (a1 + d) a2' = some (no', wire', num', from', upto', next', e')) :
    (e = 0 → no' = no ∧ wire' = wire ∧ num' = num ∧ from' = from_ + d ∧ upto' = upto + d ∧ next' = next + d ∧ e' = 0) ∧ (e ≠ 0 → e' = e ∨ (e = 6 ∧ a2 + d < a2')) := by
  have T0 := T
  obtain ⟨hw, h0, h1, h2, hb, g3, h4, h5, hc⟩ := T
  obtain ⟨x0, x1, x2, x3, ht, hx⟩ := tag_tells b a1 a2 h0 h1 h2 hb k hk
  obtain ⟨y0, y1, y2, y3, ht', hy⟩ := tag_tells c (a1 + d) a2' g3 (by omega) h5 hc k' hk'
  obtain ⟨g0, g1⟩ := tag_win T0 k k' hk hk' _ _ _ _ _ _ _ _ ht ht'
  unfold record_Next.f at h h'
  rw [ht] at h
  rw [ht'] at h'
  simp only [Option.bind_some] at h h'
  by_cases c0 : x3 = 0
  · obtain ⟨rfl, rfl, rfl, rfl⟩ := g0 c0
    rw [if_pos c0] at h
    rw [if_pos rfl] at h'
    obtain ⟨p1, p2⟩ := hx c0
    have T1 := T0.on (p := x2) (by omega) p2
    obtain ⟨v, q, z, hn, hq, hv⟩ := number_tells b x2 a2 (by omega) (by omega) h2 hb k hk y1
    obtain ⟨v', q', z', hn', hq', hv'⟩ := number_tells c (x2 + d) a2' (by omega) (by omega) h5 hc k' hk' y1
    obtain ⟨g2, g3'⟩ := number_win T1 k k' hk hk' _ _ _ _ _ _ _ hn hn'
    rw [hn] at h
    rw [hn'] at h'
    simp only [Option.bind_some] at h h'
    by_cases c1 : z = 0
    · obtain ⟨rfl, rfl, rfl⟩ := g2 c1
      rw [if_pos c1] at h
      rw [if_pos rfl] at h'
      obtain ⟨q1, q2⟩ := hq c1
      by_cases c2 : y1 = 2
      · rw [if_pos c2, w64 (n := a2 - q) (by omega) (by omega), IntWalk.u64_in _ (by omega)] at h
        rw [if_pos c2, w64 (n := a2' - (q + d)) (by omega) (by omega), IntWalk.u64_in _ (by omega)] at h'
        by_cases c3 : v' > a2 - q
        · rw [if_pos c3] at h
          cases h
          refine ⟨fun h => absurd h (by decide), fun _ => ?_⟩
          by_cases c4 : v' > a2' - (q + d)
          · rw [if_pos c4] at h'
            cases h'
            exact Or.inl rfl
          · exact Or.inr ⟨rfl, by omega⟩
        · rw [if_neg c3, w64 (n := v') (by omega) (by omega), w64 (n := q + v') (by omega) (by omega)] at h
          rw [if_neg (by omega), w64 (n := v') (by omega) (by omega), w64 (n := q + d + v') (by omega) (by omega)] at h'
          cases h; cases h'
          exact ⟨fun _ => ⟨rfl, rfl, rfl, rfl, by omega, by omega, rfl⟩, fun h => absurd rfl h⟩
      · rw [if_neg c2] at h h'
        cases h; cases h'
        exact ⟨fun _ => ⟨rfl, rfl, rfl, rfl, rfl, rfl, rfl⟩, fun h => absurd rfl h⟩
    · rw [if_neg c1] at h
      cases h
      refine ⟨fun h => absurd h c1, fun _ => ?_⟩
      rcases g3' c1 with rfl | g
      · rw [if_neg c1] at h'
        cases h'
        exact Or.inl rfl
      · exact Or.inr g
  · rw [if_neg c0] at h
    cases h
    refine ⟨fun h => absurd h c0, fun _ => ?_⟩
    rcases g1 c0 with rfl | g
    · rw [if_neg c0] at h'
      cases h'
      exact Or.inl rfl
    · exact Or.inr g
/-- A list of numbers: what is wrong with it. -/
theorem next_n_win {b c : List Int} {d a1 a2 a2' : Int} (T : Two b c d a1 a2 a2') (w v p e v' p' e' : Int)
    (h : nextN w b a1 a2 = some (v, p, e)) (h' : nextN w c (a1 + d) a2' = some (v', p', e')) :
    (e = 0 → v' = v ∧ p' = p + d ∧ e' = 0) ∧ (e ≠ 0 → e' = e ∨ (e = 6 ∧ a2 + d < a2')) := by
  unfold nextN at h h'
  split at h
  · rename_i c1
    rw [if_pos c1] at h'
    exact unfix_win T 20 20 (by decide) (by decide) 8 (Or.inr rfl) _ _ _ _ _ _ h h'
  · rename_i c1
    rw [if_neg c1] at h'
    split at h
    · rename_i c2
      rw [if_pos c2] at h'
      exact unfix_win T 20 20 (by decide) (by decide) 4 (Or.inl rfl) _ _ _ _ _ _ h h'
    · rename_i c2
      rw [if_neg c2] at h'
      exact get_win T 20 20 (by decide) (by decide) _ _ _ _ _ _ h h'
theorem num_loop_win (kind : Int) {b c : List Int} {d a2 : Int} : ∀ (j k k' : Nat) (a1 : Int) (acc acc' : List Int) (r r' : List Int) (x x' : Int), Two b c d a1 a2 (a2 + d) → a2 - a1 < j → j ≤ k → j ≤ k' →
    numLoop kind b a2 k a1 acc = some (r, x) → numLoop kind c (a2 + d) k' (a1 + d) acc' = some (r', x') → x' = x := by
  intro j
  induction j with
  | zero => intro k k' a1 acc acc' r r' x x' T hj; have := T.h1; omega
  | succ j ih =>
    intro k k' a1 acc acc' r r' x x' T hj hk hk' h h'
    have T0 := T
    obtain ⟨hw, h0, h1, h2, hb, g3, h4, h5, hc⟩ := T
    obtain ⟨k, rfl⟩ : ∃ m, k = m + 1 := ⟨k - 1, by omega⟩
    obtain ⟨k', rfl⟩ : ∃ m, k' = m + 1 := ⟨k' - 1, by omega⟩
    rw [numLoop] at h h'
    by_cases c1 : a1 < a2
    · rw [if_pos c1] at h
      rw [if_pos (by omega)] at h'
      obtain ⟨v, p, e, hn, he, hv⟩ := next_n_tells b a1 a2 h0 (by omega) h2 hb (wireOf kind)
      obtain ⟨v', p', e', hn', he', hv'⟩ := next_n_tells c (a1 + d) (a2 + d) g3 (by omega) h5 hc (wireOf kind)
      obtain ⟨g0, g1⟩ := next_n_win T0 _ _ _ _ _ _ _ hn hn'
      rw [hn, Option.bind_some] at h
      rw [hn', Option.bind_some] at h'
      dsimp only at h h'
      by_cases c2 : e = 0
      · obtain ⟨rfl, rfl, rfl⟩ := g0 c2
        rw [if_pos c2] at h
        rw [if_pos rfl] at h'
        obtain ⟨p1, p2⟩ := he c2
        split at h
        · rename_i c3
          rw [if_pos c3] at h'
          split at h
          · split at h'
            · exact ih k k' p _ _ _ _ _ _ (T0.on (by omega) p2) (by omega) (by omega) (by omega) h h'
            · cases h'
          · cases h
        · cases h
      · rw [if_neg c2] at h
        rcases g1 c2 with rfl | ⟨-, g⟩
        · rw [if_neg c2] at h'
          cases h; cases h'
          rfl
        · omega
    · rw [if_neg c1] at h
      rw [if_neg (by omega)] at h'
      cases h; cases h'
      rfl
/-- decode.Numbers: what is wrong. -/
theorem numbers_win (kind : Int) {b c : List Int} {d a1 a2 : Int} (T : Two b c d a1 a2 (a2 + d)) (r r' : List Int) (x x' : Int) (h : decode_Numbers.f kind b a1 a2 = some (r, x)) (h' : decode_Numbers.f kind c (a1 + d) (a2 + d) = some (r', x')) : x' = x := by
  have T0 := T
  obtain ⟨hw, h0, h1, h2, hb, g3, h4, h5, hc⟩ := T
  unfold decode_Numbers.f at h h'
  have e1 : numBad kind b a1 a2 = !kindIn kind := by
    unfold numBad
    rw [decide_eq_false (by omega), decide_eq_false (by omega), decide_eq_false (by omega)]
    simp
  have e2 : numBad kind c (a1 + d) (a2 + d) = !kindIn kind := by
    unfold numBad
    rw [decide_eq_false (by omega), decide_eq_false (by omega), decide_eq_false (by omega)]
    simp
  rw [e1] at h
  rw [e2] at h'
  split at h
  · rename_i c1
    rw [if_pos c1] at h'
    cases h; cases h'
    rfl
  · rename_i c1
    rw [if_neg c1] at h'
    exact num_loop_win kind ((a2 - a1).toNat + 1) _ _ a1 [] [] r r' x x' T0 (by omega) (by omega) (by omega) h h'
/-- utf.Fine. -/
theorem fine_win {b c : List Int} {d a1 a2 : Int} (T : Two b c d a1 a2 (a2 + d)) : Utf.fineB c (a1 + d) (a2 + d) = Utf.fineB b a1 a2 := by
  obtain ⟨hw, h0, h1, h2, hb, g3, h4, h5, hc⟩ := T
  have e : (c.take (a2 + d).toNat).drop (a1 + d).toNat = (b.take a2.toNat).drop a1.toNat := by
    apply List.ext_getElem?
    intro i
    rw [List.getElem?_drop, List.getElem?_drop, List.getElem?_take, List.getElem?_take]
    by_cases hi : (i : Int) < a2 - a1
    · rw [if_pos (by omega), if_pos (by omega)]
      have h := hw (a1 + i) (by omega) (by omega)
      unfold rd at h
      rw [show (a1 + (i : Int)).toNat = a1.toNat + i by omega, show (a1 + (i : Int) + d).toNat = (a1 + d).toNat + i by omega] at h
      rw [List.getD_eq_getElem?_getD, List.getD_eq_getElem?_getD] at h
      have l1 : a1.toNat + i < b.length := by omega
      have l2 : (a1 + d).toNat + i < c.length := by omega
      rw [List.getElem?_eq_getElem l1, List.getElem?_eq_getElem l2] at h ⊢
      simp only [Option.getD_some] at h
      rw [h]
    · rw [if_neg (by omega), if_neg (by omega)]
  unfold Utf.fineB
  rw [e, show a2 + d - (a1 + d) = a2 - a1 by omega]
  rw [decide_eq_true (p := 0 ≤ a1 + d) (by omega), decide_eq_true (p := a1 + d ≤ a2 + d) (by omega), decide_eq_true (p := a2 + d ≤ (c.length : Int)) (by omega),
    decide_eq_true (p := 0 ≤ a1) (by omega), decide_eq_true (p := a1 ≤ a2) (by omega), decide_eq_true (p := a2 ≤ (b.length : Int)) (by omega)]
end Go.Proofs.Ytlokcpfkaijchaa.PA
