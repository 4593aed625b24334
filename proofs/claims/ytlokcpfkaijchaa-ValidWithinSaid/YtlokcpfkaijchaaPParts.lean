/- What valid.Check tells of two parts, one behind the other, in plain Lean. -/
import Derived.Test.YtlokcpfkaijchaaPRun
namespace Go.Proofs.Ytlokcpfkaijchaa.PA
open Go.RowKit Go.Proofs.YtlokcpfkaijchaaW.PrintWords Go.Proofs.YtlokcpfkaijchaaW.PrintLast Go.Proofs.YtlokcpfkaijchaaW.PrintMore
set_option linter.unusedVariables false
set_option linter.unusedSimpArgs false
/-- The first frame. -/
def startF (m : Int) (b : List Int) : S40 := ⟨false, m, ⟨0, (⟨#[]⟩ : ByteArray), 0, 0, false, 0, 0⟩, 0, (b.length : Int), 1⟩
theorem start_good (m : Int) (b : List Int) : Good b.length [startF m b] := by
  have h : goodF b.length (startF m b) := by simp [goodF, startF]
  have := good_snoc (n := b.length) (l := []) (x := startF m b)
  rw [List.nil_append] at this
  exact this.2 ⟨⟨by simp, by simp⟩, h, by simp⟩
theorem start_psi (m : Int) (b : List Int) : psi [startF m b] = b.length + 1 := by simp [psi, startF]
section
variable {M : List S77} {E : List S81}
theorem deepTop_hi {n : Nat} {l : List S40} {deep : Int} (hG : Good n l) (h : deep ≤ 64) : deepTop l deep ≤ 64 := by
  unfold deepTop
  split
  · exact h
  · rename_i y hy
    have := (hG.1 y (List.mem_of_getLast? hy)).2.2.2.2
    omega
theorem checkL_top (b : List Int) (hb : isBytes b = true) (hl : b.length ≤ 1000000000) : ∀ (n : Nat) (l : List S40) (deep : Int) (R : Int × Int), Good b.length l → deep ≤ 64 → checkL M E b n l deep = some R → R.1 ≤ 64 := by
  intro n
  induction n with
  | zero => intro l deep R hG hd h; simp [checkL] at h
  | succ n ih =>
    intro l deep R hG hd h
    rcases List.eq_nil_or_concat l with rfl | ⟨l, x, rfl⟩
    · rw [checkL_nil] at h; cases h; exact hd
    · rw [List.concat_eq_append] at *
      obtain ⟨l2, e, hs, hg⟩ := step_tells M E b l x hb hl hG
      rw [checkL_snoc] at h
      split at h
      · rw [hs, Option.bind_some] at h
        dsimp only at h
        split at h
        · rename_i he
          exact ih _ _ _ (hg he).1 (deepTop_hi (hg he).1 hd) h
        · cases h; exact hd
      · cases h
/-- A run from the beginning: it ends, its depth is between 1 and 64. -/
theorem check_run (m : Int) (b : List Int) (hb : isBytes b = true) (hl : b.length ≤ 100000) : ∃ n e, checkL M E b (2 * b.length + 3) [startF m b] 1 = some (n, e) ∧ 1 ≤ n ∧ n ≤ 64 := by
  obtain ⟨R, h⟩ := checkL_ends (M := M) (E := E) b hb (by omega) (2 * b.length + 3) [startF m b] 1 (start_good m b) (by rw [start_psi]; omega) (by rw [start_psi]; omega)
  exact ⟨R.1, R.2, h, checkL_ge b _ _ _ _ h, checkL_top b hb (by omega) _ _ _ _ (start_good m b) (by decide) h⟩
theorem check_eq (l : List Int) (a1 : Int) : valid_Check.f M E a1 l = (table_May.f M E).bind fun m => if m = true then (if a1 < 0 ∨ (M.length : Int) ≤ a1 then some (0, 1) else checkL M E l (2 * l.length + 3) [startF a1 l] 1) else some (0, 1) := rfl
/-- valid.Check answers; its depth. -/
theorem check_tells (m : Int) (b : List Int) (hb : isBytes b = true) (hl : b.length ≤ 100000) (mm : Bool) (hm : table_May.f M E = some mm) : ∃ n e, valid_Check.f M E m b = some (n, e) := by
  rw [check_eq, hm, Option.bind_some]
  split
  · split
    · exact ⟨_, _, rfl⟩
    · obtain ⟨n, e, h, -⟩ := check_run (M := M) (E := E) m b hb hl
      exact ⟨n, e, h⟩
  · exact ⟨_, _, rfl⟩
theorem win_left (a b : List Int) : Win a (a ++ b) 0 0 a.length := by
  intro i h1 h2
  unfold rd
  rw [Int.add_zero, List.getD_eq_getElem?_getD, List.getD_eq_getElem?_getD, List.getElem?_append_left (by omega)]
theorem win_right (a b : List Int) : Win b (a ++ b) a.length 0 b.length := by
  intro i h1 h2
  unfold rd
  rw [List.getD_eq_getElem?_getD, List.getD_eq_getElem?_getD, List.getElem?_append_right (by omega)]
  congr 2
  omega
theorem isBytes_append {a b : List Int} (ha : isBytes a = true) (hb : isBytes b = true) (hl : a.length + b.length ≤ 100000) : isBytes (a ++ b) = true := by
  have h1 := isBytes_out ha
  have h2 := isBytes_out hb
  simp only [isBytes, Bool.and_eq_true, List.all_eq_true, decide_eq_true_eq, List.length_append]
  refine ⟨fun n hn => ?_, by omega⟩
  rcases List.mem_append.1 hn with h | h
  · exact h1.1 n h
  · exact h2.1 n h
/-- The last frame at its end: the run is over. -/
theorem runs_last (b : List Int) (x : S40) (deep : Int) (h0 : 0 ≤ x.f3) (h1 : x.f3 = x.f4) (h2 : x.f4 ≤ b.length) (h3 : 1 ≤ x.f5) (h4 : x.f5 ≤ 64) : Runs M E b [x] deep (deep, 0) := by
  have hs : stepF 20 M E b [] x = some ([], 0) := by
    unfold stepF
    rw [if_neg (by simp only [topBad]; omega), if_pos h1]
  exact Runs.step (l := []) (by decide) hs Runs.nil
theorem check_parts (m : Int) (a b : List Int) (ha : isBytes a = true) (hb : isBytes b = true) (hla : a.length ≤ 1000) (hlb : b.length ≤ 1000) (n e k f all g : Int)
    (h1 : valid_Check.f M E m a = some (n, e)) (h2 : valid_Check.f M E m b = some (k, f)) (h3 : valid_Check.f M E m (a ++ b) = some (all, g)) :
    (e = 0 → g = f ∧ n ≤ all ∧ k ≤ all ∧ (all = n ∨ all = k)) ∧ (e ≠ 0 → e = 6 ∨ (g = e ∧ all = n)) := by
  rw [check_eq] at h1 h2 h3
  cases hm : table_May.f M E with
  | none => rw [hm] at h1; cases h1
  | some mm =>
    rw [hm, Option.bind_some] at h1 h2 h3
    cases mm with
    | false =>
      rw [if_neg (by decide)] at h1 h2 h3
      cases h1; cases h2; cases h3
      exact ⟨fun h => absurd h (by decide), fun _ => Or.inr ⟨rfl, rfl⟩⟩
    | true =>
      rw [if_pos rfl] at h1 h2 h3
      by_cases c0 : m < 0 ∨ (M.length : Int) ≤ m
      · rw [if_pos c0] at h1 h2 h3
        cases h1; cases h2; cases h3
        exact ⟨fun h => absurd h (by decide), fun _ => Or.inr ⟨rfl, rfl⟩⟩
      · rw [if_neg c0] at h1 h2 h3
        have hc := isBytes_append ha hb (by omega)
        obtain ⟨n', e', g1, n1, n2⟩ := check_run (M := M) (E := E) m a ha (by omega)
        rw [h1] at g1; cases g1
        obtain ⟨k', f', g2, k1, k2⟩ := check_run (M := M) (E := E) m b hb (by omega)
        rw [h2] at g2; cases g2
        have hlc : (a ++ b).length = a.length + b.length := List.length_append
        have W1 : Within a (a ++ b) 0 0 ((a ++ b).length : Int) (startF m a) := ⟨win_left a b, ha, hc, by omega, by omega, by omega, by omega, by omega, by show (a.length : Int) + 0 ≤ _; omega, by omega⟩
        have W2 : Within b (a ++ b) a.length 0 ((a ++ b).length : Int) (startF m b) := ⟨win_right a b, hb, hc, by omega, by omega, by omega, by omega, by omega, by show (b.length : Int) + a.length ≤ _; omega, by omega⟩
        have R1 := run_sim W1 [] (by decide) 1 _ [startF m a] 1 n e (start_good m a) (by simp) (by rintro y ⟨rfl⟩; exact ⟨rfl, rfl, rfl, rfl, rfl⟩) (by intro y hy; rw [List.mem_singleton.1 hy]; show (1 : Int) + 0 ≤ 64; decide) (by rw [start_psi]; omega) h1
        have s1 : ([] : List S40) ++ shL 0 0 ((a ++ b).length : Int) [startF m a] = [startF m (a ++ b)] := rfl
        rw [s1, show max ((1 : Int) + 0) 1 = 1 from rfl, show max (n + 0) 1 = n by omega] at R1
        have R0 : Runs M E (a ++ b) [startF m (a ++ b)] 1 (all, g) := ⟨_, h3⟩
        rcases R1 with ⟨c1, r⟩ | ⟨c1, -⟩ | ⟨c1, -⟩ | ⟨c1, r⟩
        · have := R0.det r
          cases this
          exact ⟨fun h => absurd h c1, fun _ => Or.inr ⟨rfl, rfl⟩⟩
        · exact ⟨fun h => absurd (c1.symm.trans h) (by decide), fun _ => Or.inl c1⟩
        · omega
        · refine ⟨fun _ => ?_, fun h => absurd c1 h⟩
          have R2 := run_sim W2 [] (by decide) n _ [startF m b] 1 k f (start_good m b) (by simp) (by rintro y ⟨rfl⟩; exact ⟨rfl, rfl, rfl, rfl, rfl⟩) (by intro y hy; rw [List.mem_singleton.1 hy]; show (1 : Int) + 0 ≤ 64; decide) (by rw [start_psi]; omega) h2
          have s2 : ([] : List S40) ++ shL (a.length : Int) 0 ((a ++ b).length : Int) [startF m b] = [] ++ [⟨(startF m a).f0, (startF m a).f1, (startF m a).f2, (startF m a).f4 + 0, ((a ++ b).length : Int), (startF m a).f5 + 0⟩] := by
            simp [shL, startF]
          rw [s2, show max ((1 : Int) + 0) n = n by omega, show max (k + 0) n = max k n by omega] at R2
          have fin : ∀ R', Runs M E (a ++ b) ([] ++ [⟨(startF m a).f0, (startF m a).f1, (startF m a).f2, (startF m a).f4 + 0, ((a ++ b).length : Int), (startF m a).f5 + 0⟩]) n R' → R' = (all, g) := fun R' h => ((R0.det (r R' h))).symm
          have res : (max k n, f) = (all, g) := by
            rcases R2 with ⟨-, r2⟩ | ⟨-, r2⟩ | ⟨r2, -⟩ | ⟨r2, r3⟩
            · exact fin _ r2
            · exfalso
              have : (b.length : Int) + a.length < ((a ++ b).length : Int) := r2
              omega
            · omega
            · subst r2
              refine fin _ (r3 _ (runs_last _ _ _ ?_ ?_ ?_ ?_ ?_))
              · show (0 : Int) ≤ (b.length : Int) + a.length; omega
              · show (b.length : Int) + a.length = ((a ++ b).length : Int); omega
              · exact Int.le_refl _
              · show (1 : Int) ≤ 1 + 0; decide
              · show (1 : Int) + 0 ≤ 64; decide
          cases res
          refine ⟨rfl, by omega, by omega, ?_⟩
          by_cases hk : n ≤ k
          · exact Or.inr (Int.max_eq_left hk)
          · exact Or.inl (Int.max_eq_right (by omega))
end
end Go.Proofs.Ytlokcpfkaijchaa.PA
