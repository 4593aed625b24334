/- Contracts of truffleref09.count and truffleref09.Few: what is few is small in all its parts. -/
import Derived.Test.YthikfifoomfjgaaGreatRefDeep
namespace Go.Tr
set_option linter.unusedVariables false
set_option linter.unusedSimpArgs false
/-- How many slots, values and messages. -/
def Msg.weight (m : Msg) : Nat := m.f.length + m.vals.length + m.subs.length + (m.subs.attach.map fun x => x.1.weight).sum
termination_by SizeOf.sizeOf m
decreasing_by exact Msg.subs_lt x.2
def weights (l : List Msg) : Nat := (l.map Msg.weight).sum
theorem Msg.weight_eq (m : Msg) : m.weight = m.f.length + m.vals.length + m.subs.length + weights m.subs := by
  rw [Msg.weight]
  congr 2
  simp
theorem weights_app (l r : List Msg) : weights (l ++ r) = weights l + weights r := by simp [weights]
theorem weights_one (x : Msg) : weights [x] = x.weight := by simp [weights]
/-- What count tells of a message's part: so many slots, values, messages in them, and those that were looked at. -/
def acc (f v s : Nat) (S : List Msg) : Nat := f + v + s + weights S
theorem weights_mem {l : List Msg} {x : Msg} (h : x ∈ l) : x.weight ≤ weights l := by
  unfold weights
  induction l with
  | nil => simp at h
  | cons y l ih =>
    rcases List.mem_cons.1 h with rfl | h
    · simp
    · have := ih h; simp; omega
def flatLen (l : List Val) : Nat := (subsOf l).length
theorem deep_of (m : Msg) (d : Int) (h : ∀ x ∈ m.subs, (x.deep : Int) ≤ d - 1) (hd : 1 ≤ d) : (m.deep : Int) ≤ d := by
  have : most m.subs ≤ (d - 1).toNat := most_le fun x hx => by have := h x hx; omega
  rw [Msg.deep_eq]
  unfold most at this
  omega
/-- What is light is small in all its parts. -/
theorem weight_size (m : Msg) : m.size ≤ m.weight := by
  rw [Msg.size_eq, Msg.weight_eq]
  have : ∀ l : List Msg, (∀ x ∈ l, x.size ≤ x.weight) → (l.map Msg.size).sum ≤ weights l := by
    intro l h
    unfold weights
    induction l with
    | nil => simp
    | cons x l ih =>
      have h1 := ih fun y hy => h y (List.mem_cons_of_mem _ hy)
      have h2 := h x List.mem_cons_self
      simp only [List.map_cons, List.sum_cons]; omega
  have := this m.subs fun x hx => weight_size x
  omega
termination_by SizeOf.sizeOf m
decreasing_by exact Msg.subs_lt hx
theorem weight_sub {m x : Msg} (h : x ∈ m.subs) : x.weight ≤ m.weight := by
  have := weights_mem h
  rw [Msg.weight_eq m]; omega
theorem weight_f (m : Msg) : m.f.length ≤ m.weight := by rw [Msg.weight_eq]; omega
theorem length_flatMap_mem {α β : Type} (f : α → List β) {l : List α} {x : α} (h : x ∈ l) : (f x).length ≤ (l.flatMap f).length := by
  obtain ⟨a, b, rfl⟩ := List.append_of_mem h
  simp [List.flatMap_append]; omega
theorem weight_rows (m : Msg) {s : Slot} (hs : s ∈ m.f) : Slot.rows m.weight s := by
  have hv : s.k.length + s.v.length ≤ m.vals.length := by
    have := length_flatMap_mem (fun s : Slot => s.k ++ s.v) hs
    simpa [Msg.vals] using this
  have hw := Msg.weight_eq m
  refine ⟨by omega, by omega, fun x hx => ?_⟩
  have hx' : x ∈ m.vals := List.mem_flatMap.2 ⟨s, hs, List.mem_append.2 hx⟩
  have := length_flatMap_mem (fun x : Val => x.m) hx'
  have h2 : (m.vals.flatMap fun x => x.m).length = m.subs.length := rfl
  omega
theorem RMsg.shrink {L L' B : Nat} {w : World} : ∀ (n : Nat) {cs : List Value} {m : Msg}, RMsg L B w n cs m → m.weight ≤ L' → RMsg L' B w n cs m
  | 0, _, _, h, _ => h.elim
  | n + 1, _, m, h, hw => by
    obtain ⟨c, rfl, h⟩ := h
    refine ⟨c, rfl, h.gen (by have := weight_f m; omega) (Nat.le_refl _) (Keeps.refl _ _) fun cs s hs h => h.gen ?_ (Nat.le_refl _) (Keeps.refl _ _) fun cs x hx h => RMsg.shrink n h ?_⟩
    · obtain ⟨h1, h2, h3⟩ := weight_rows m hs
      exact ⟨by omega, by omega, fun x hx => by have := h3 x hx; omega⟩
    · obtain ⟨y, hy, hx⟩ := hx
      have := weight_sub (m := m) (x := x) (List.mem_flatMap.2 ⟨y, List.mem_flatMap.2 ⟨s, hs, List.mem_append.2 hy⟩, hx⟩)
      omega
end Go.Tr
