/- How a run of valid.Check over bytes goes within another one: shifted, deeper, with more behind it. -/
import Derived.Test.YtlokcpfkaijchaaPWin
import Derived.Test.YtlokcpfkaijchaaGCheck
namespace Go.Proofs.Ytlokcpfkaijchaa.PA
open Go.RowKit Go.Proofs.YtlokcpfkaijchaaW.PrintWords Go.Proofs.YtlokcpfkaijchaaW.PrintLast Go.Proofs.YtlokcpfkaijchaaW.PrintMore
set_option linter.unusedVariables false
set_option linter.unusedSimpArgs false
/-- A frame so many places on, so much deeper. -/
def mvF (d δ : Int) (y : S40) : S40 := ⟨y.f0, y.f1, y.f2, y.f3 + d, y.f4 + d, y.f5 + δ⟩
/-- What is done with a record, elsewhere. -/
theorem done_win {b c : List Int} {d δ from_ upto : Int} (T : Two b c d from_ upto (upto + d)) (hbb : isBytes b = true) (hcb : isBytes c = true) (hδ : 0 ≤ δ) (wire do_ kind ref : Int) (f : S38) (deep : Int)
    (o o' : Option S40) (e e' : Int) (h : doneN b wire from_ upto do_ kind ref f deep = some (o, e)) (h' : doneN c wire (from_ + d) (upto + d) do_ kind ref f (deep + δ) = some (o', e')) :
    (e' = e ∧ o' = o.map (mvF d δ) ∧ ∀ y, o = some y → y.f5 + δ ≤ 64 ∨ do_ = 2 ∧ y.f5 = deep) ∨ (e = 0 ∧ e' = 11 ∧ ∃ y, o = some y ∧ 64 < y.f5 + δ) := by
  unfold doneN at h h'
  split at h
  · rename_i c1
    rw [if_pos c1] at h'
    obtain ⟨r, x, hn⟩ := numbers_total kind b from_ upto T.hb
    obtain ⟨r', x', hn'⟩ := numbers_total kind c (from_ + d) (upto + d) T.hc
    have hx := numbers_win kind T r r' x x' hn hn'
    rw [hn] at h
    rw [hn'] at h'
    cases h; cases h'
    exact Or.inl ⟨hx, rfl, by simp⟩
  · rename_i c1
    rw [if_neg c1] at h'
    split at h
    · rename_i c2
      rw [if_pos c2] at h'
      split at h
      · rename_i c3
        rw [if_pos c3] at h'
        split at h
        · rename_i c4
          rw [if_pos c4] at h'
          split at h
          · rename_i c5
            rw [if_pos (by omega)] at h'
            cases h; cases h'
            exact Or.inl ⟨rfl, rfl, by simp⟩
          · rename_i c5
            cases h
            split at h'
            · rename_i c6
              cases h'
              exact Or.inr ⟨rfl, rfl, _, rfl, by show 64 < deep + 1 + δ; omega⟩
            · rename_i c6
              cases h'
              refine Or.inl ⟨rfl, ?_, ?_⟩
              · simp [mvF]; omega
              · rintro y ⟨rfl⟩
                exact Or.inl (by show deep + 1 + δ ≤ 64; omega)
        · rename_i c4
          rw [if_neg c4] at h'
          cases h; cases h'
          refine Or.inl ⟨rfl, rfl, ?_⟩
          rintro y ⟨rfl⟩
          exact Or.inr ⟨c2, rfl⟩
      · rename_i c3
        rw [if_neg c3] at h'
        cases h; cases h'
        exact Or.inl ⟨rfl, rfl, by simp⟩
    · rename_i c2
      rw [if_neg c2] at h'
      split at h
      · rename_i c3
        rw [if_pos c3] at h'
        split at h
        · rename_i c4
          rw [if_pos c4] at h'
          split at h
          · rename_i c5
            rw [if_pos c5] at h'
            unfold utf_Fine.f at h h'
            rw [if_pos hbb, Option.bind_some] at h
            rw [if_pos hcb, Option.bind_some, fine_win T] at h'
            split at h
            · rename_i c6
              rw [if_pos c6] at h'
              cases h; cases h'
              exact Or.inl ⟨rfl, rfl, by simp⟩
            · rename_i c6
              rw [if_neg c6] at h'
              cases h; cases h'
              exact Or.inl ⟨rfl, rfl, by simp⟩
          · rename_i c5
            rw [if_neg c5] at h'
            split at h
            · rename_i c6
              rw [if_pos c6] at h'
              split at h
              · rename_i c7
                rw [if_pos (by omega)] at h'
                cases h; cases h'
                exact Or.inl ⟨rfl, rfl, by simp⟩
              · rename_i c7
                cases h
                split at h'
                · rename_i c8
                  cases h'
                  exact Or.inr ⟨rfl, rfl, _, rfl, by show 64 < deep + 1 + δ; omega⟩
                · rename_i c8
                  cases h'
                  refine Or.inl ⟨rfl, ?_, ?_⟩
                  · simp [mvF]; omega
                  · rintro y ⟨rfl⟩
                    exact Or.inl (by show deep + 1 + δ ≤ 64; omega)
            · rename_i c6
              rw [if_neg c6] at h'
              cases h; cases h'
              exact Or.inl ⟨rfl, rfl, by simp⟩
        · rename_i c4
          rw [if_neg c4] at h'
          cases h; cases h'
          exact Or.inl ⟨rfl, rfl, by simp⟩
      · rename_i c3
        rw [if_neg c3] at h'
        cases h; cases h'
        exact Or.inl ⟨rfl, rfl, by simp⟩
/-- The frame's places, and the record's, are no part of what is done. -/
theorem of_places (k : Nat) (M : List S77) (E : List S81) (x0 : Bool) (x1 x2 : Int) (x3 : ByteArray) (x4 x5 : Int) (x6 : Bool) (x7 x8 x9 x10 x11 no wire num from_ upto y9 y10 y11 num' from' upto' : Int) :
    valid_of.f k M E x0 x1 x2 x3 x4 x5 x6 x7 x8 x9 x10 x11 no wire num from_ upto = valid_of.f k M E x0 x1 x2 x3 x4 x5 x6 x7 x8 y9 y10 y11 no wire num' from' upto' := rfl
/-- A step, elsewhere: the last frame's counterpart is x'. -/
theorem step_win (M : List S77) (E : List S81) {b c : List Int} {d δ : Int} (hbb : isBytes b = true) (hcb : isBytes c = true) (hδ : 0 ≤ δ) (l l' : List S40) (x x' : S40)
    (T : Two b c d x.f3 x.f4 x'.f4) (h0 : x'.f0 = x.f0) (h1 : x'.f1 = x.f1) (h2 : x'.f2 = x.f2) (h3 : x'.f3 = x.f3 + d) (h5 : x'.f5 = x.f5 + δ) (hd1 : 1 ≤ x.f5) (hd2 : x'.f5 ≤ 64) (hne : x.f3 ≠ x.f4)
    (l2 l2' : List S40) (e e' : Int) (h : stepF 20 M E b l x = some (l2, e)) (h' : stepF 20 M E c l' x' = some (l2', e')) :
    (e = 0 ∧ e' = 0 ∧ ∃ next o, l2 = l ++ [(⟨x.f0, x.f1, x.f2, next, x.f4, x.f5⟩ : S40)] ++ Option.toList o ∧ l2' = l' ++ [(⟨x'.f0, x'.f1, x'.f2, next + d, x'.f4, x'.f5⟩ : S40)] ++ (o.map (mvF d δ)).toList ∧ ∀ y, o = some y → y.f5 + δ ≤ 64) ∨
    (e ≠ 0 ∧ e' = e) ∨ (e = 6 ∧ x.f4 + d < x'.f4) ∨ (e = 0 ∧ e' = 11 ∧ ∃ next y, l2 = l ++ [(⟨x.f0, x.f1, x.f2, next, x.f4, x.f5⟩ : S40)] ++ [y] ∧ 64 < y.f5 + δ) := by
  have T0 := T
  obtain ⟨hw, g0, g1, g2, hb, g3, g4, g5, hc⟩ := T
  unfold stepF at h h'
  rw [if_neg (by simp only [topBad]; omega), if_neg hne] at h
  rw [if_neg (by simp only [topBad]; omega), if_neg (by omega)] at h'
  obtain ⟨no, wire, num, from_, upto, next, x3, hn, ht⟩ := next_tells b x.f3 x.f4 g0 g1 g2 hb 20 (by decide)
  obtain ⟨no', wire', num', from', upto', next', x3', hn', ht'⟩ := next_tells c (x.f3 + d) x'.f4 g3 (by omega) g5 hc 20 (by decide)
  obtain ⟨n0, n1⟩ := next_win T0 20 20 (by decide) (by decide) _ _ _ _ _ _ _ _ _ _ _ _ _ _ hn hn'
  rw [h3, hn', Option.bind_some] at h'
  rw [hn, Option.bind_some] at h
  dsimp only at h h'
  by_cases c0 : x3 = 0
  · obtain ⟨rfl, rfl, rfl, rfl, rfl, rfl, rfl⟩ := n0 c0
    obtain ⟨t1, t2, t3, t4, t5, t6, t7, t8⟩ := ht c0
    rw [if_pos c0] at h
    rw [if_pos rfl] at h'
    obtain ⟨j0, j1, j2, j3, j4, j5, j6, j7, j8, j9, hj, hj0⟩ := of_tells 19 M E x.f0 x.f1 x.f2.f0 x.f2.f1 x.f2.f2 x.f2.f3 x.f2.f4 x.f2.f5 x.f2.f6 next x.f4 x.f5 no' wire' num' from_ upto
    rw [hj, Option.bind_some] at h
    rw [h0, h1, h2, of_places 20 M E x.f0 x.f1 x.f2.f0 x.f2.f1 x.f2.f2 x.f2.f3 x.f2.f4 x.f2.f5 x.f2.f6 (next + d) x'.f4 x'.f5 no' wire' num' (from_ + d) (upto + d) next x.f4 x.f5 num' from_ upto, hj, Option.bind_some] at h'
    dsimp only at h h'
    have hdp : deepOf x' no' = deepOf x no' + δ := by
      unfold deepOf
      rw [h0, h2, h5]
      split <;> omega
    have hdi : deepOf x no' ≤ x.f5 := by
      unfold deepOf
      split <;> omega
    rw [hdp] at h'
    obtain ⟨o, z, hd, ho⟩ := done_tells b wire' from_ upto j0 j1 j2 ⟨j3, j4, j5, j6, j7, j8, j9⟩ (deepOf x no') hbb hb
    obtain ⟨o', z', hd', ho'⟩ := done_tells c wire' (from_ + d) (upto + d) j0 j1 j2 ⟨j3, j4, j5, j6, j7, j8, j9⟩ (deepOf x no' + δ) hcb hc
    have T1 : Two b c d from_ upto (upto + d) := ⟨hw.sub (by omega) (by omega), by omega, t3, by omega, hb, by omega, by omega, by omega, hc⟩
    have W := done_win T1 hbb hcb hδ wire' j0 j1 j2 ⟨j3, j4, j5, j6, j7, j8, j9⟩ (deepOf x no') o o' z z' hd hd'
    rw [hd, Option.bind_some] at h
    rw [hd', Option.bind_some] at h'
    dsimp only at h h'
    rcases W with ⟨rfl, rfl, hy⟩ | ⟨rfl, rfl, y, rfl, hy⟩
    · by_cases c1 : z' = 0
      · rw [if_pos c1] at h h'
        cases h; cases h'
        refine Or.inl ⟨rfl, rfl, next, o, rfl, by rw [h0, h1, h2], fun y hy' => ?_⟩
        rcases hy y hy' with a | ⟨-, a⟩
        · exact a
        · omega
      · rw [if_neg c1] at h h'
        cases h; cases h'
        exact Or.inr (Or.inl ⟨c1, rfl⟩)
    · rw [if_pos rfl] at h
      rw [if_neg (by decide)] at h'
      cases h; cases h'
      exact Or.inr (Or.inr (Or.inr ⟨rfl, rfl, next, y, rfl, hy⟩))
  · rw [if_neg c0] at h
    cases h
    rcases n1 c0 with rfl | g
    · rw [if_neg c0] at h'
      cases h'
      exact Or.inr (Or.inl ⟨c0, rfl⟩)
    · exact Or.inr (Or.inr (Or.inl g))
/-- A step answers, whatever the last frame. -/
theorem step_total (M : List S77) (E : List S81) (c : List Int) (hcb : isBytes c = true) (hc : c.length ≤ 1000000000) (l : List S40) (x : S40) : ∃ l' e, stepF 20 M E c l x = some (l', e) := by
  unfold stepF
  split
  · exact ⟨_, _, rfl⟩
  · rename_i hb
    simp only [topBad] at hb
    split
    · exact ⟨_, _, rfl⟩
    · obtain ⟨no, wire, num, from_, upto, next, e, hn, ht⟩ := next_tells c x.f3 x.f4 (by omega) (by omega) (by omega) hc 20 (by decide)
      rw [hn, Option.bind_some]
      dsimp only
      split
      · obtain ⟨j0, j1, j2, j3, j4, j5, j6, j7, j8, j9, hj, hj0⟩ := of_tells 19 M E x.f0 x.f1 x.f2.f0 x.f2.f1 x.f2.f2 x.f2.f3 x.f2.f4 x.f2.f5 x.f2.f6 next x.f4 x.f5 no wire num from_ upto
        rw [hj, Option.bind_some]
        dsimp only
        obtain ⟨o, z, hd, ho⟩ := done_tells c wire from_ upto j0 j1 j2 ⟨j3, j4, j5, j6, j7, j8, j9⟩ (deepOf x no) hcb hc
        rw [hd, Option.bind_some]
        dsimp only
        split
        · exact ⟨_, _, rfl⟩
        · exact ⟨_, _, rfl⟩
      · exact ⟨_, _, rfl⟩
/-- With steps enough the run ends so. -/
def Runs (M : List S77) (E : List S81) (b : List Int) (l : List S40) (deep : Int) (R : Int × Int) : Prop := ∃ m, checkL M E b m l deep = some R
section
variable {M : List S77} {E : List S81}
theorem checkL_snoc (b : List Int) (n : Nat) (l : List S40) (x : S40) (deep : Int) :
    checkL M E b (n + 1) (l ++ [x]) deep = if l.length + 1 ≤ 999999 then (stepF 20 M E b l x).bind fun r => if r.2 = 0 then checkL M E b n r.1 (deepTop r.1 deep) else some (deep, r.2) else none := by
  simp [checkL]
theorem checkL_nil (b : List Int) (n : Nat) (deep : Int) : checkL M E b (n + 1) [] deep = some (deep, 0) := by simp [checkL]
theorem checkL_more (b : List Int) : ∀ (n : Nat) (l : List S40) (deep : Int) (R : Int × Int), checkL M E b n l deep = some R → checkL M E b (n + 1) l deep = some R := by
  intro n
  induction n with
  | zero => intro l deep R h; simp [checkL] at h
  | succ n ih =>
    intro l deep R h
    rcases List.eq_nil_or_concat l with rfl | ⟨l, x, rfl⟩
    · rw [checkL_nil] at h ⊢; exact h
    · rw [List.concat_eq_append] at h ⊢
      rw [checkL_snoc] at h ⊢
      split at h
      · rename_i c0
        rw [if_pos c0]
        cases hs : stepF 20 M E b l x with
        | none => rw [hs] at h; cases h
        | some r =>
          rw [hs, Option.bind_some] at h
          rw [Option.bind_some]
          split at h
          · rename_i c1
            rw [if_pos c1]
            exact ih _ _ _ h
          · rename_i c1
            rw [if_neg c1]
            exact h
      · cases h
theorem checkL_le (b : List Int) {n m : Nat} (hnm : n ≤ m) (l : List S40) (deep : Int) (R : Int × Int) (h : checkL M E b n l deep = some R) : checkL M E b m l deep = some R := by
  induction hnm with
  | refl => exact h
  | step _ ih => exact checkL_more b _ _ _ _ ih
theorem Runs.det {b : List Int} {l : List S40} {deep : Int} {R R' : Int × Int} (h : Runs M E b l deep R) (h' : Runs M E b l deep R') : R = R' := by
  obtain ⟨m, h⟩ := h
  obtain ⟨m', h'⟩ := h'
  have h1 := checkL_le b (Nat.le_max_left m m') _ _ _ h
  have h2 := checkL_le b (Nat.le_max_right m m') _ _ _ h'
  rw [h1] at h2
  exact Option.some.inj h2
theorem Runs.step {b : List Int} {l l2 : List S40} {x : S40} {deep : Int} {R : Int × Int} (hl : l.length + 1 ≤ 999999) (hs : stepF 20 M E b l x = some (l2, 0)) (h : Runs M E b l2 (deepTop l2 deep) R) : Runs M E b (l ++ [x]) deep R := by
  obtain ⟨m, h⟩ := h
  exact ⟨m + 1, by rw [checkL_snoc, if_pos hl, hs, Option.bind_some, if_pos rfl]; exact h⟩
theorem Runs.err {b : List Int} {l l2 : List S40} {x : S40} {deep e : Int} (hl : l.length + 1 ≤ 999999) (hs : stepF 20 M E b l x = some (l2, e)) (he : e ≠ 0) : Runs M E b (l ++ [x]) deep (deep, e) :=
  ⟨1, by rw [checkL_snoc, if_pos hl, hs, Option.bind_some, if_neg he]⟩
theorem Runs.nil {b : List Int} {deep : Int} : Runs M E b [] deep (deep, 0) := ⟨1, checkL_nil b 0 deep⟩
theorem deepTop_ge (l : List S40) (deep : Int) : deep ≤ deepTop l deep := by
  unfold deepTop
  split <;> omega
theorem checkL_ge (b : List Int) : ∀ (n : Nat) (l : List S40) (deep : Int) (R : Int × Int), checkL M E b n l deep = some R → deep ≤ R.1 := by
  intro n
  induction n with
  | zero => intro l deep R h; simp [checkL] at h
  | succ n ih =>
    intro l deep R h
    rcases List.eq_nil_or_concat l with rfl | ⟨l, x, rfl⟩
    · rw [checkL_nil] at h; cases h; exact Int.le_refl _
    · rw [List.concat_eq_append] at h
      rw [checkL_snoc] at h
      split at h
      · cases hs : stepF 20 M E b l x with
        | none => rw [hs] at h; cases h
        | some r =>
          rw [hs, Option.bind_some] at h
          split at h
          · exact Int.le_trans (deepTop_ge _ _) (ih _ _ _ h)
          · cases h; exact Int.le_refl _
      · cases h
/-- It ends. -/
theorem checkL_ends (b : List Int) (hb : isBytes b = true) (hl : b.length ≤ 1000000000) : ∀ (n : Nat) (l : List S40) (deep : Int), Good b.length l → psi l < n → psi l ≤ 900000 → ∃ R, checkL M E b n l deep = some R := by
  intro n
  induction n with
  | zero => intro l deep hG h; have := psi_nonneg hG; omega
  | succ n ih =>
    intro l deep hG h hp
    have h0 := psi_nonneg hG
    rcases List.eq_nil_or_concat l with rfl | ⟨l, x, rfl⟩
    · exact ⟨_, checkL_nil b n deep⟩
    · rw [List.concat_eq_append] at *
      obtain ⟨l2, e, hs, hg⟩ := step_tells M E b l x hb hl hG
      simp only [List.length_append, List.length_singleton] at h0
      rw [checkL_snoc, if_pos (by omega), hs, Option.bind_some]
      dsimp only
      split
      · rename_i he
        obtain ⟨g1, g2⟩ := hg he
        exact ih _ _ g1 (by omega) (by omega)
      · exact ⟨_, rfl⟩
end
/-- Frames elsewhere: the first one ends at U. -/
def shL (d δ U : Int) : List S40 → List S40
  | [] => []
  | x :: t => ⟨x.f0, x.f1, x.f2, x.f3 + d, U, x.f5 + δ⟩ :: t.map (mvF d δ)
theorem shL_more (d δ U : Int) (l m : List S40) (h : l ≠ []) : shL d δ U (l ++ m) = shL d δ U l ++ m.map (mvF d δ) := by
  cases l with
  | nil => exact absurd rfl h
  | cons x t => simp [shL]
theorem shL_length (d δ U : Int) (l : List S40) : (shL d δ U l).length = l.length := by cases l <;> simp [shL]
theorem shL_nil_iff (d δ U : Int) (l : List S40) : shL d δ U l = [] ↔ l = [] := by cases l <;> simp [shL]
/-- The last frame's counterpart. -/
theorem shL_last (d δ U : Int) (l : List S40) (x : S40) : ∃ x', shL d δ U (l ++ [x]) = shL d δ U l ++ [x'] ∧ x'.f0 = x.f0 ∧ x'.f1 = x.f1 ∧ x'.f2 = x.f2 ∧ x'.f3 = x.f3 + d ∧ x'.f5 = x.f5 + δ ∧ (l = [] → x'.f4 = U) ∧ (l ≠ [] → x'.f4 = x.f4 + d) := by
  by_cases h : l = []
  · subst h
    exact ⟨_, rfl, rfl, rfl, rfl, rfl, rfl, fun _ => rfl, fun h => absurd rfl h⟩
  · exact ⟨mvF d δ x, by rw [shL_more _ _ _ _ _ h]; rfl, rfl, rfl, rfl, rfl, rfl, fun e => absurd e h, fun _ => rfl⟩
theorem deepTop_sh (d δ U q : Int) (P l : List S40) (deep : Int) (h : l ≠ []) : deepTop (P ++ shL d δ U l) (max (deep + δ) q) = max (deepTop l deep + δ) q := by
  rcases List.eq_nil_or_concat l with rfl | ⟨l, x, rfl⟩
  · exact absurd rfl h
  · rw [List.concat_eq_append]
    obtain ⟨x', hx, -, -, -, -, h5, -⟩ := shL_last d δ U l x
    rw [hx, ← List.append_assoc, deepTop_snoc, deepTop_snoc, h5]
    omega
/-- What both runs share. -/
structure Within (b c : List Int) (d δ U : Int) (Z : S40) : Prop where
  win : Win b c d 0 b.length
  hbb : isBytes b = true
  hcb : isBytes c = true
  hb : b.length ≤ 1000000000
  hc : c.length ≤ 1000000000
  hd : 0 ≤ d
  hδ : 0 ≤ δ
  hbc : (b.length : Int) + d ≤ c.length
  hU : Z.f4 + d ≤ U
  hUc : U ≤ c.length
theorem run_sim {M : List S77} {E : List S81} {b c : List Int} {d δ U : Int} {Z : S40} (H : Within b c d δ U Z) (P : List S40) (hP : P.length ≤ 9) (q : Int) :
    ∀ (n : Nat) (l : List S40) (deep R e : Int), Good b.length l → l ≠ [] → (∀ y, l.head? = some y → y.f0 = Z.f0 ∧ y.f1 = Z.f1 ∧ y.f2 = Z.f2 ∧ y.f4 = Z.f4 ∧ y.f5 = Z.f5) → (∀ y ∈ l, y.f5 + δ ≤ 64) → psi l ≤ 900000 →
    checkL M E b n l deep = some (R, e) →
    (e ≠ 0 ∧ Runs M E c (P ++ shL d δ U l) (max (deep + δ) q) (max (R + δ) q, e)) ∨ (e = 6 ∧ Z.f4 + d < U) ∨ (64 < R + δ ∧ ∃ k, Runs M E c (P ++ shL d δ U l) (max (deep + δ) q) (k, 11)) ∨
    (e = 0 ∧ ∀ R', Runs M E c (P ++ [⟨Z.f0, Z.f1, Z.f2, Z.f4 + d, U, Z.f5 + δ⟩]) (max (R + δ) q) R' → Runs M E c (P ++ shL d δ U l) (max (deep + δ) q) R') := by
  obtain ⟨hwin, hbb, hcb, hb, hc, hd, hδ, hbc, hU, hUc⟩ := H
  intro n
  induction n with
  | zero => intro l deep R e _ _ _ _ _ h; simp [checkL] at h
  | succ n ih =>
    intro l deep R e hG hne hh h64 hp h
    rcases List.eq_nil_or_concat l with rfl | ⟨l, x, rfl⟩
    · exact absurd rfl hne
    rw [List.concat_eq_append] at *
    have hlen := psi_nonneg hG
    simp only [List.length_append, List.length_singleton] at hlen
    obtain ⟨x', hx, x0, x1, x2, x3, x5, x4a, x4b⟩ := shL_last d δ U l x
    obtain ⟨hgl, ⟨g1, g2, g3, g4, g5⟩, hlast⟩ := good_snoc.1 hG
    have hx64 := h64 x (by simp)
    have hPl : (P ++ shL d δ U l).length + 1 ≤ 999999 := by rw [List.length_append, shL_length]; omega
    have hx4 : x.f4 + d ≤ x'.f4 ∧ x'.f4 ≤ c.length := by
      by_cases hl : l = []
      · subst hl
        have := hh x rfl
        rw [x4a rfl]; omega
      · rw [x4b hl]; omega
    obtain ⟨l2, e2, hs, hg⟩ := step_tells M E b l x hbb hb hG
    rw [checkL_snoc, if_pos (by omega), hs, Option.bind_some] at h
    dsimp only at h
    rw [hx, ← List.append_assoc]
    by_cases hend : x.f3 = x.f4
    · have hs' := hs
      unfold stepF at hs'
      rw [if_neg (by simp only [topBad]; omega), if_pos hend] at hs'
      cases hs'
      rw [if_pos rfl] at h
      by_cases hl : l = []
      · subst hl
        cases n with
        | zero => simp [checkL] at h
        | succ n =>
          rw [checkL_nil] at h
          cases h
          obtain ⟨z0, z1, z2, z4, z5⟩ := hh x rfl
          refine Or.inr (Or.inr (Or.inr ⟨rfl, fun R' hR => ?_⟩))
          have e1 : x' = ⟨Z.f0, Z.f1, Z.f2, Z.f4 + d, U, Z.f5 + δ⟩ := by
            rw [show x' = ⟨x'.f0, x'.f1, x'.f2, x'.f3, x'.f4, x'.f5⟩ from rfl, x0, x1, x2, x3, x5, x4a rfl, z0, z1, z2, z5, hend, z4]
          rw [e1, show P ++ shL d δ U [] = P by simp [shL]]
          exact hR
      · have hstep : stepF 20 M E c (P ++ shL d δ U l) x' = some (P ++ shL d δ U l, 0) := by
          have e4 := x4b hl
          unfold stepF
          rw [if_neg (by simp only [topBad]; omega), if_pos (by omega)]
        have IH := ih l (deepTop l deep) R e hgl hl (fun y hy => hh y (by
          cases l with
          | nil => exact absurd rfl hl
          | cons a t => exact hy)) (fun y hy => h64 y (by simp [hy])) (by rw [psi_snoc] at hp; omega) h
        rw [← deepTop_sh d δ U q P l deep hl] at IH
        rcases IH with ⟨a, b1⟩ | a | ⟨a, k, b1⟩ | ⟨a, b1⟩
        · exact Or.inl ⟨a, Runs.step hPl hstep b1⟩
        · exact Or.inr (Or.inl a)
        · exact Or.inr (Or.inr (Or.inl ⟨a, k, Runs.step hPl hstep b1⟩))
        · exact Or.inr (Or.inr (Or.inr ⟨a, fun R' hR => Runs.step hPl hstep (b1 R' hR)⟩))
    · obtain ⟨l2', e2', hs'⟩ := step_total M E c hcb hc (P ++ shL d δ U l) x'
      have T : Two b c d x.f3 x.f4 x'.f4 := ⟨hwin.sub g1 g3, g1, g2, g3, hb, by omega, hx4.1, hx4.2, hc⟩
      rcases step_win M E hbb hcb hδ l (P ++ shL d δ U l) x x' T x0 x1 x2 x3 x5 g4 (by omega) hend l2 l2' e2 e2' hs hs' with ⟨rfl, rfl, next, o, rfl, rfl, ho⟩ | ⟨h1, rfl⟩ | ⟨rfl, h1⟩ | ⟨rfl, rfl, next, y, rfl, hy⟩
      · rw [if_pos rfl] at h
        obtain ⟨hG2, hp2⟩ := hg rfl
        have hsh : P ++ shL d δ U l ++ [(⟨x'.f0, x'.f1, x'.f2, next + d, x'.f4, x'.f5⟩ : S40)] ++ (o.map (mvF d δ)).toList = P ++ shL d δ U (l ++ [⟨x.f0, x.f1, x.f2, next, x.f4, x.f5⟩] ++ o.toList) := by
          have eo : (o.map (mvF d δ)).toList = o.toList.map (mvF d δ) := by cases o <;> rfl
          rw [shL_more _ _ _ _ _ (by simp), eo]
          by_cases hl : l = []
          · subst hl
            simp [shL, x0, x1, x2, x5, x4a rfl]
          · rw [shL_more _ _ _ _ _ hl]
            simp [mvF, x0, x1, x2, x5, x4b hl]
        rw [hsh] at hs'
        have hne2 : l ++ [(⟨x.f0, x.f1, x.f2, next, x.f4, x.f5⟩ : S40)] ++ o.toList ≠ [] := by simp
        have IH := ih _ _ R e hG2 hne2 (fun y hy => by
          by_cases hl : l = []
          · subst hl
            obtain rfl : (⟨x.f0, x.f1, x.f2, next, x.f4, x.f5⟩ : S40) = y := by simpa using hy
            exact hh x rfl
          · refine hh y ?_
            cases l with
            | nil => exact absurd rfl hl
            | cons a t => simpa using hy) (fun y hy => by
          rcases List.mem_append.1 hy with hy | hy
          · rcases List.mem_append.1 hy with hy | hy
            · exact h64 y (by simp [hy])
            · rw [List.mem_singleton.1 hy]; exact hx64
          · exact ho y (by simpa using hy)) (by omega) h
        rw [← deepTop_sh d δ U q P _ deep hne2] at IH
        rcases IH with ⟨a, b1⟩ | a | ⟨a, k, b1⟩ | ⟨a, b1⟩
        · exact Or.inl ⟨a, Runs.step hPl hs' b1⟩
        · exact Or.inr (Or.inl a)
        · exact Or.inr (Or.inr (Or.inl ⟨a, k, Runs.step hPl hs' b1⟩))
        · exact Or.inr (Or.inr (Or.inr ⟨a, fun R' hR => Runs.step hPl hs' (b1 R' hR)⟩))
      · rw [if_neg h1] at h
        cases h
        exact Or.inl ⟨h1, Runs.err hPl hs' h1⟩
      · rw [if_neg (by decide)] at h
        cases h
        refine Or.inr (Or.inl ⟨rfl, ?_⟩)
        by_cases hl : l = []
        · subst hl
          have := hh x rfl
          rw [x4a rfl] at h1
          omega
        · rw [x4b hl] at h1
          omega
      · rw [if_pos rfl, deepTop_snoc] at h
        have := checkL_ge b _ _ _ _ h
        dsimp only at this
        exact Or.inr (Or.inr (Or.inl ⟨by omega, _, Runs.err hPl hs' (by decide)⟩))
end Go.Proofs.Ytlokcpfkaijchaa.PA
