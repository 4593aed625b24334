/- Rows of three-cell elements, and lists that they read as, element by element. -/
import Derived.Test.YtogcnodgpgiacaaDel
namespace Go.Tr
set_option linter.unusedVariables false
set_option linter.unusedSimpArgs false
/-- Element by element: these cells read as those. -/
def AllR {α : Type} (R : List Value → α → Prop) : List Cell3 → List α → Prop
  | [], [] => True
  | t :: ts, x :: xs => R (cells3 t) x ∧ AllR R ts xs
  | _, _ => False
variable {α : Type} {R R' : List Value → α → Prop}
theorem AllR.length : ∀ {ts : List Cell3} {xs : List α}, AllR R ts xs → ts.length = xs.length
  | [], [], _ => rfl
  | _ :: _, _ :: _, h => by simp [AllR.length h.2]
theorem AllR.get : ∀ {ts : List Cell3} {xs : List α}, AllR R ts xs → ∀ i (h1 : i < ts.length) (h2 : i < xs.length), R (cells3 ts[i]) xs[i]
  | _ :: _, _ :: _, h, 0, _, _ => h.1
  | _ :: _, _ :: _, h, i + 1, h1, h2 => AllR.get h.2 i (by simpa using h1) (by simpa using h2)
theorem AllR.imp : ∀ {ts : List Cell3} {xs : List α}, AllR R ts xs → (∀ t x, t ∈ ts → x ∈ xs → R (cells3 t) x → R' (cells3 t) x) → AllR R' ts xs
  | [], [], _, _ => trivial
  | t :: ts, x :: xs, h, hR => ⟨hR _ _ (by simp) (by simp) h.1, AllR.imp h.2 fun _ _ ht hx => hR _ _ (by simp [ht]) (by simp [hx])⟩
theorem AllR.filter {p : Cell3 → Bool} {q : α → Bool} (hpq : ∀ t x, R (cells3 t) x → p t = q x) : ∀ {ts : List Cell3} {xs : List α}, AllR R ts xs → AllR R (ts.filter p) (xs.filter q)
  | [], [], _ => trivial
  | t :: ts, x :: xs, h => by
    rw [List.filter_cons, List.filter_cons, hpq t x h.1]
    split
    · exact ⟨h.1, AllR.filter hpq h.2⟩
    · exact AllR.filter hpq h.2
theorem AllR.app : ∀ {ts us : List Cell3} {xs ys : List α}, AllR R ts xs → AllR R us ys → AllR R (ts ++ us) (xs ++ ys)
  | [], _, [], _, _, k => k
  | _ :: _, _, _ :: _, _, h, k => ⟨h.1, AllR.app h.2 k⟩
theorem AllR.take : ∀ {ts : List Cell3} {xs : List α} (i : Nat), AllR R ts xs → AllR R (ts.take i) (xs.take i)
  | _, _, 0, _ => trivial
  | [], [], i + 1, _ => trivial
  | _ :: _, _ :: _, i + 1, h => ⟨h.1, AllR.take i h.2⟩
theorem AllR.drop : ∀ {ts : List Cell3} {xs : List α} (i : Nat), AllR R ts xs → AllR R (ts.drop i) (xs.drop i)
  | _, _, 0, h => h
  | [], [], i + 1, _ => trivial
  | _ :: _, _ :: _, i + 1, h => AllR.drop i h.2
theorem AllR.mem : ∀ {ts : List Cell3} {xs : List α}, AllR R ts xs → ∀ t ∈ ts, ∃ x ∈ xs, R (cells3 t) x
  | _ :: _, _ :: _, h, t, ht => by
    rcases List.mem_cons.1 ht with rfl | ht
    · exact ⟨_, by simp, h.1⟩
    · obtain ⟨x, hx, hr⟩ := AllR.mem h.2 t ht
      exact ⟨x, by simp [hx], hr⟩
theorem AllR.part {ts : List Cell3} {xs : List α} (h : AllR R ts xs) : Part 3 R (flat ts) xs xs.length := fun i hi _ => by
  have hl := h.length
  refine ⟨cells3 (ts[i]'(by omega)), rfl, fun j u hu => ?_, h.get i (by omega) hi⟩
  have hg := flat_get ts i (by omega)
  have hj : j < 3 := by have := (List.getElem?_eq_some_iff.1 hu).1; simpa [cells3] using this
  match j, hj with
  | 0, _ => rw [Nat.add_zero, hg.1]; simpa [cells3] using hu
  | 1, _ => rw [hg.2.1]; simpa [cells3] using hu
  | 2, _ => rw [hg.2.2]; simpa [cells3] using hu
theorem Part.all {ys : List Value} : ∀ {xs : List α}, (∀ cs x, R cs x → ∃ c0 c1 c2, cs = [c0, c1, c2]) → ys.length = xs.length * 3 → Part 3 R ys xs xs.length → ∃ ts, ys = flat ts ∧ AllR R ts xs := by
  intro xs h3 hy hp
  induction xs generalizing ys with
  | nil => exact ⟨[], List.eq_nil_of_length_eq_zero (by simpa using hy), trivial⟩
  | cons x xs ih =>
    obtain ⟨cs, hc, hg, hr⟩ := hp 0 (by simp) (by simp)
    obtain ⟨c0, c1, c2, rfl⟩ := h3 _ _ hr
    have g0 := hg 0 c0 rfl
    have g1 := hg 1 c1 rfl
    have g2 := hg 2 c2 rfl
    simp only [Nat.zero_mul, Nat.zero_add] at g0 g1 g2
    obtain ⟨ts, h1, h2⟩ := ih (ys := ys.drop 3) (by simp only [List.length_drop, hy, List.length_cons]; omega) (fun i hi hi' => by
      obtain ⟨cs, k1, k2, k3⟩ := hp (i + 1) (by simp; omega) (by simp; omega)
      exact ⟨cs, k1, fun j u hu => by rw [List.getElem?_drop, ← k2 j u hu]; congr 1; omega, by simpa using k3⟩)
    refine ⟨(c0, c1, c2) :: ts, ?_, by have h := hr; simp only [List.getElem_cons_zero] at h; exact h, h2⟩
    rw [flat_cons, ← h1]
    match ys, hy, g0, g1, g2 with
    | a :: b :: c :: r, _, g0, g1, g2 => simp at g0 g1 g2; simp [cells3, g0, g1, g2]
end Go.Tr
