/- What a step of valid tells, in plain Lean: it answers, frames stay within one another, and each step costs. -/
import Derived.Test.YtlokcpfkaijchaaGStep
import Derived.Test.YtlokcpfkaijchaaPRec
namespace Go.Proofs.Ytlokcpfkaijchaa.PA
open Go.RowKit Go.Proofs.YtlokcpfkaijchaaW.PrintWords Go.Proofs.YtlokcpfkaijchaaW.PrintLast Go.Proofs.YtlokcpfkaijchaaW.PrintMore
set_option linter.unusedVariables false
set_option linter.unusedSimpArgs false
theorem next_n_tells (b : List Int) (a1 a2 : Int) (h0 : 0 ≤ a1) (h1 : a1 ≤ a2) (h2 : a2 ≤ b.length) (hb : b.length ≤ 1000000000) (w : Int) :
    ∃ v p e, nextN w b a1 a2 = some (v, p, e) ∧ (e = 0 → a1 + 1 ≤ p ∧ p ≤ a2) ∧ 0 ≤ v ∧ v < 18446744073709551616 := by
  unfold nextN
  split
  · exact unfix_tells b a1 a2 h0 h1 h2 hb 20 (by decide) 8 (Or.inr rfl)
  · split
    · exact unfix_tells b a1 a2 h0 h1 h2 hb 20 (by decide) 4 (Or.inl rfl)
    · exact get_tells b a1 a2 h0 h1 h2 hb 20 (by decide)
theorem num_loop_tells (kind : Int) (b : List Int) (a2 : Int) (h2 : a2 ≤ b.length) (hb : b.length ≤ 1000000000) : ∀ (k : Nat) (a1 : Int) (acc : List Int), 0 ≤ a1 → a1 ≤ a2 → a2 - a1 < k → acc.length + k ≤ 2000000000 → ∃ r x, numLoop kind b a2 k a1 acc = some (r, x) := by
  intro k
  induction k with
  | zero => intro a1 acc h0 h1 hk; omega
  | succ k ih =>
    intro a1 acc h0 h1 hk hacc
    rw [numLoop]
    split
    · obtain ⟨v, p, e, hn, he, hv⟩ := next_n_tells b a1 a2 h0 (by omega) h2 hb (wireOf kind)
      rw [hn, Option.bind_some]
      dsimp only
      split
      · rename_i h
        have hu : isU64 v = true := by simp [isU64, hv]
        obtain ⟨p1, p2⟩ := he h
        rw [if_pos hu, if_pos (by omega)]
        exact ih p _ (by omega) p2 (by omega) (by simp; omega)
      · exact ⟨_, _, rfl⟩
    · exact ⟨_, _, rfl⟩
theorem numbers_total (kind : Int) (b : List Int) (a1 a2 : Int) (hb : b.length ≤ 1000000000) : ∃ r x, decode_Numbers.f kind b a1 a2 = some (r, x) := by
  unfold decode_Numbers.f
  split
  · exact ⟨_, _, rfl⟩
  · rename_i h
    have h' : ¬ a1 < 0 ∧ ¬ a2 < a1 ∧ ¬ (b.length : Int) < a2 := by
      simp only [numBad, Bool.or_eq_true, decide_eq_true_eq, not_or] at h
      exact ⟨h.1.1.2, h.1.2, h.2⟩
    exact num_loop_tells kind b a2 (by omega) hb (b.length + 1) a1 [] (by omega) (by omega) (by omega) (by simp; omega)
/-- valid.done: it answers; what it lays on. -/
theorem done_tells (b : List Int) (wire from_ upto do_ kind ref : Int) (f : S38) (deep : Int) (hb : isBytes b = true) (hl : b.length ≤ 1000000000) :
    ∃ o x, doneN b wire from_ upto do_ kind ref f deep = some (o, x) ∧ ∀ y, o = some y → y.f3 = from_ ∧ y.f4 = upto ∧ wire = 2 ∧ (do_ = 2 ∧ y.f5 = deep ∨ y.f5 = deep + 1 ∧ deep + 1 ≤ 64) := by
  unfold doneN
  split
  · obtain ⟨r, x, h⟩ := numbers_total kind b from_ upto hl
    rw [h]
    exact ⟨none, x, rfl, by simp⟩
  · split
    · rename_i hd
      split
      · split
        · split
          · exact ⟨none, 11, rfl, by simp⟩
          · refine ⟨_, 0, rfl, ?_⟩
            rintro y ⟨rfl⟩
            exact ⟨rfl, rfl, by assumption, Or.inr ⟨rfl, by omega⟩⟩
        · refine ⟨_, 0, rfl, ?_⟩
          rintro y ⟨rfl⟩
          exact ⟨rfl, rfl, by assumption, Or.inl ⟨hd, rfl⟩⟩
      · exact ⟨none, 8, rfl, by simp⟩
    · split
      · split
        · rename_i hw
          split
          · unfold utf_Fine.f
            rw [if_pos hb, Option.bind_some]
            split
            · exact ⟨none, 0, rfl, by simp⟩
            · exact ⟨none, 10, rfl, by simp⟩
          · split
            · rename_i h9
              split
              · exact ⟨none, 11, rfl, by simp⟩
              · refine ⟨_, 0, rfl, ?_⟩
                rintro y ⟨rfl⟩
                refine ⟨rfl, rfl, ?_, Or.inr ⟨rfl, by omega⟩⟩
                rw [hw, h9]
                decide
            · exact ⟨none, 0, rfl, by simp⟩
        · exact ⟨none, 8, rfl, by simp⟩
      · exact ⟨none, 0, rfl, by simp⟩
/-- valid.of: it answers; an entry's job is never an entry. -/
theorem of_tells (k : Nat) (M : List S77) (E : List S81) (x0 : Bool) (x1 x2 : Int) (x3 : ByteArray) (x4 x5 : Int) (x6 : Bool) (x7 x8 x9 x10 x11 no wire num from_ upto : Int) :
    ∃ j0 j1 j2 j3 j4 j5 j6 j7 j8 j9, valid_of.f (k + 1) M E x0 x1 x2 x3 x4 x5 x6 x7 x8 x9 x10 x11 no wire num from_ upto = some (j0, j1, j2, j3, j4, j5, j6, j7, j8, j9) ∧ (x0 = true → j0 ≠ 2) := by
  unfold valid_of.f
  split
  · split
    · exact ⟨_, _, _, _, _, _, _, _, _, _, rfl, fun _ => by decide⟩
    · split
      · exact ⟨_, _, _, _, _, _, _, _, _, _, rfl, fun _ => by decide⟩
      · exact ⟨_, _, _, _, _, _, _, _, _, _, rfl, fun _ => by decide⟩
  · rename_i h
    have key : ∀ y0 y1 y2 y3 y4 y5 y6 y7, ∃ j0 j1 j2 j3 j4 j5 j6 j7 j8 j9, valid_of.j0 (k + 1) y0 y1 y2 y3 y4 y5 y6 y7 = some (j0, j1, j2, j3, j4, j5, j6, j7, j8, j9) ∧ (x0 = true → j0 ≠ 2) := by
      intro y0 y1 y2 y3 y4 y5 y6 y7
      rw [valid_of.j0]
      split
      · exact ⟨_, _, _, _, _, _, _, _, _, _, rfl, fun e => absurd e h⟩
      · split
        · exact ⟨_, _, _, _, _, _, _, _, _, _, rfl, fun e => absurd e h⟩
        · exact ⟨_, _, _, _, _, _, _, _, _, _, rfl, fun e => absurd e h⟩
    unfold table_By.f
    rw [Option.bind_some]
    unfold conv_Of.f
    rw [if_pos (by decide), Option.bind_some]
    split
    · split
      · split <;> exact key _ _ _ _ _ _ _ _
      · exact key _ _ _ _ _ _ _ _
    · exact ⟨_, _, _, _, _, _, _, _, _, _, rfl, fun e => absurd e h⟩
/-- A frame that may be. -/
def goodF (n : Nat) (x : S40) : Prop := 0 ≤ x.f3 ∧ x.f3 ≤ x.f4 ∧ x.f4 ≤ n ∧ 1 ≤ x.f5 ∧ x.f5 ≤ 64
/-- A frame within the one before it. -/
def within (y x : S40) : Prop := x.f4 ≤ y.f3 ∧ y.f5 ≤ x.f5
/-- Frames within one another. -/
def Good (n : Nat) (l : List S40) : Prop := (∀ x ∈ l, goodF n x) ∧ ∀ i y x, l[i]? = some y → l[i + 1]? = some x → within y x
/-- What is left to do. -/
def psi (l : List S40) : Int := (l.map fun x => x.f4 - x.f3 + 1).sum
theorem psi_snoc (l : List S40) (x : S40) : psi (l ++ [x]) = psi l + (x.f4 - x.f3 + 1) := by simp [psi, List.sum_append]
theorem good_snoc {n : Nat} {l : List S40} {x : S40} : Good n (l ++ [x]) ↔ Good n l ∧ goodF n x ∧ ∀ y, l.getLast? = some y → within y x := by
  constructor
  · rintro ⟨h1, h2⟩
    refine ⟨⟨fun y hy => h1 y (by simp [hy]), fun i y z hy hz => h2 i y z ?_ ?_⟩, h1 x (by simp), fun y hy => ?_⟩
    · have : i < l.length := (List.getElem?_eq_some_iff.1 hy).1
      rw [List.getElem?_append_left this]; exact hy
    · have : i + 1 < l.length := (List.getElem?_eq_some_iff.1 hz).1
      rw [List.getElem?_append_left this]; exact hz
    · rw [List.getLast?_eq_getElem?] at hy
      have hlt : l.length - 1 < l.length := (List.getElem?_eq_some_iff.1 hy).1
      refine h2 (l.length - 1) y x ?_ ?_
      · rw [List.getElem?_append_left hlt]; exact hy
      · rw [show l.length - 1 + 1 = l.length by omega]; simp
  · rintro ⟨⟨h1, h2⟩, hx, hl⟩
    refine ⟨fun y hy => ?_, fun i y z hy hz => ?_⟩
    · rcases List.mem_append.1 hy with h | h
      · exact h1 y h
      · rw [List.mem_singleton.1 h]; exact hx
    · by_cases hi : i + 1 < l.length
      · rw [List.getElem?_append_left (by omega)] at hy
        rw [List.getElem?_append_left hi] at hz
        exact h2 i y z hy hz
      · have hlt : i + 1 < (l ++ [x]).length := (List.getElem?_eq_some_iff.1 hz).1
        simp at hlt
        have e : i + 1 = l.length := by omega
        rw [List.getElem?_append_right (by omega), e, Nat.sub_self] at hz
        obtain rfl : x = z := by simpa using hz
        refine hl y ?_
        rw [List.getLast?_eq_getElem?, ← hy, List.getElem?_append_left (by omega)]
        congr 1
        omega
/-- A step: it answers; frames stay within one another; it costs. -/
theorem step_tells (M : List S77) (E : List S81) (b : List Int) (l : List S40) (x : S40) (hb : isBytes b = true) (hl : b.length ≤ 1000000000) (hG : Good b.length (l ++ [x])) :
    ∃ l' e, stepF 20 M E b l x = some (l', e) ∧ (e = 0 → Good b.length l' ∧ psi l' + 1 ≤ psi (l ++ [x])) := by
  obtain ⟨hg, ⟨g1, g2, g3, g4, g5⟩, hlast⟩ := good_snoc.1 hG
  unfold stepF
  rw [if_neg (by simp only [topBad]; omega)]
  split
  · rename_i he
    refine ⟨l, 0, rfl, fun _ => ⟨hg, ?_⟩⟩
    rw [psi_snoc]
    omega
  · rename_i he
    obtain ⟨no, wire, num, from_, upto, next, e, hn, ht⟩ := next_tells b x.f3 x.f4 g1 g2 g3 hl 20 (by decide)
    rw [hn, Option.bind_some]
    dsimp only
    split
    · rename_i h0
      obtain ⟨t1, t2, t3, t4, t5, t6, t7, t8⟩ := ht h0
      obtain ⟨j0, j1, j2, j3, j4, j5, j6, j7, j8, j9, hj, hj0⟩ := of_tells 19 M E x.f0 x.f1 x.f2.f0 x.f2.f1 x.f2.f2 x.f2.f3 x.f2.f4 x.f2.f5 x.f2.f6 next x.f4 x.f5 no wire num from_ upto
      rw [hj, Option.bind_some]
      dsimp only
      obtain ⟨o, x2, hd, ho⟩ := done_tells b wire from_ upto j0 j1 j2 ⟨j3, j4, j5, j6, j7, j8, j9⟩ (deepOf x no) hb hl
      rw [hd, Option.bind_some]
      dsimp only
      have hdeep : deepOf x no = x.f5 ∨ (x.f0 = true ∧ deepOf x no = x.f5 - 1) := by
        unfold deepOf
        split
        · rename_i h; exact Or.inr ⟨h.1, rfl⟩
        · exact Or.inl rfl
      split
      · rename_i h2
        refine ⟨_, 0, rfl, fun _ => ?_⟩
        have hx' : Good b.length (l ++ [(⟨x.f0, x.f1, x.f2, next, x.f4, x.f5⟩ : S40)]) := good_snoc.2 ⟨hg, ⟨by show 0 ≤ next; omega, t5, g3, g4, g5⟩, fun y hy => hlast y hy⟩
        cases o with
        | none =>
          simp only [Option.toList_none, List.append_nil]
          refine ⟨hx', ?_⟩
          rw [psi_snoc, psi_snoc]
          show _ + (x.f4 - next + 1) + 1 ≤ _
          omega
        | some y =>
          obtain ⟨y1, y2, y3, y4⟩ := ho y rfl
          have t9 := t6 y3
          have hy5 : x.f5 ≤ y.f5 ∧ y.f5 ≤ 64 := by
            rcases y4 with ⟨a, c⟩ | ⟨c, d⟩
            · rcases hdeep with e | ⟨e0, e⟩
              · omega
              · exact absurd a (hj0 e0)
            · rcases hdeep with e | ⟨e0, e⟩ <;> omega
          simp only [Option.toList_some]
          refine ⟨good_snoc.2 ⟨hx', ⟨by omega, by omega, by omega, by omega, by omega⟩, fun z hz => ?_⟩, ?_⟩
          · obtain rfl : (⟨x.f0, x.f1, x.f2, next, x.f4, x.f5⟩ : S40) = z := by simpa using hz
            exact ⟨by show y.f4 ≤ next; omega, hy5.1⟩
          · rw [psi_snoc, psi_snoc, psi_snoc]
            show _ + (x.f4 - next + 1) + _ + 1 ≤ _
            omega
      · rename_i h2
        exact ⟨[], x2, rfl, fun h => absurd h h2⟩
    · rename_i h0
      exact ⟨[], e, rfl, fun h => absurd h h0⟩
/-- What is left is no less than nothing. -/
theorem psi_nonneg {n : Nat} {l : List S40} (h : Good n l) : (l.length : Int) ≤ psi l := by
  have : ∀ l : List S40, (∀ x ∈ l, goodF n x) → (l.length : Int) ≤ psi l := by
    intro l
    induction l with
    | nil => intro _; simp [psi]
    | cons x l ih =>
      intro h
      have h1 := ih fun y hy => h y (by simp [hy])
      have h2 := h x (by simp)
      obtain ⟨a, b, c, d, e⟩ := h2
      simp only [psi, List.map_cons, List.sum_cons, List.length_cons] at h1 ⊢
      omega
  exact this l h.1
end Go.Proofs.Ytlokcpfkaijchaa.PA
