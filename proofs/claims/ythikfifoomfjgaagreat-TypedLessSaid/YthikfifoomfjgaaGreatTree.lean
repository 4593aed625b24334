/- Messages as trees, and what memory reads as one: rows of structs, each with what its cells read as. No program is named here. -/
import Derived.Test.YthikfifoomfjgaaGreatLib
import Derived.Deep.Slices
import Derived.Laws.OwnMore
import Derived.Deep.MidRow
import Derived.OwnWalk
namespace Go.Tr
set_option linter.unusedVariables false
set_option linter.unusedSimpArgs false
/-- A value: a number, a text, messages. -/
structure ValOf (M : Type) where
  n : Int
  s : ByteArray
  m : List M
/-- A slot: a number, keys, values. -/
structure SlotOf (M : Type) where
  no : Int
  k : List (ValOf M)
  v : List (ValOf M)
/-- A message: its slots. -/
inductive Msg where
  | mk (f : List (SlotOf Msg))
abbrev Val := ValOf Msg
abbrev Slot := SlotOf Msg
def Msg.f : Msg → List Slot
  | .mk f => f
instance : Inhabited Msg := ⟨.mk []⟩
/-- A SLICE WHOSE ELEMENTS HAVE k CELLS EACH, READ BY R: from block B on, at most L long. -/
def RowOf {α : Type} (L B : Nat) (w : World) (k : Nat) (R : List Value → α → Prop) (v : Value) (xs : List α) : Prop :=
  ∃ (a : Option Addr) (cap : Nat), v = .slice a xs.length cap ∧ xs.length ≤ L ∧ xs.length ≤ cap ∧ cap ≤ maxLen ∧ (a = none → cap = 0) ∧
    (xs ≠ [] → ∃ b off, a = some ⟨b, off, none⟩ ∧ B ≤ b ∧ ∀ i (h : i < xs.length), ∃ cs, cs.length = k ∧ (∀ j u, cs[j]? = some u → w.cell? ⟨b, off + i * k + j, none⟩ = some u) ∧ R cs xs[i])
def RVal (L B : Nat) (w : World) (R : List Value → Msg → Prop) (cs : List Value) (x : Val) : Prop :=
  ∃ c, cs = [.int .i64 x.n, .string x.s, c] ∧ -9223372036854775808 ≤ x.n ∧ x.n ≤ 9223372036854775807 ∧ x.s.size ≤ 140737488355328 ∧ RowOf L B w 1 R c x.m
def RSlot (L B : Nat) (w : World) (R : List Value → Msg → Prop) (cs : List Value) (s : Slot) : Prop :=
  ∃ c d, cs = [.int .i64 s.no, c, d] ∧ -9223372036854775808 ≤ s.no ∧ s.no ≤ 9223372036854775807 ∧ RowOf L B w 3 (RVal L B w R) c s.k ∧ RowOf L B w 3 (RVal L B w R) d s.v
/-- A message of so many levels, by the one cell that it has. -/
def RMsg (L B : Nat) (w : World) : Nat → List Value → Msg → Prop
  | 0, _, _ => False
  | n + 1, cs, m => ∃ c, cs = [c] ∧ RowOf L B w 3 (RSlot L B w (RMsg L B w n)) c m.f
/-- From block B on, what is there stays. -/
def Keeps (B : Nat) (w w' : World) : Prop := ∀ (p : Addr) (v : Value), B ≤ p.block → w.cell? p = some v → w'.cell? p = some v
theorem Keeps.of_below {B : Nat} {w w' : World} (h : RowKit.Below w.heap.size w w') : Keeps B w w' := fun p v _ hv => (h.cell (block_lt_of_cell (a := p) hv)).trans hv
theorem Keeps.refl (B : Nat) (w : World) : Keeps B w w := fun _ _ _ h => h
theorem Keeps.trans {B : Nat} {a b c : World} (h : Keeps B a b) (k : Keeps B b c) : Keeps B a c := fun p v hB hv => k p v hB (h p v hB hv)
theorem Keeps.mono {B B' : Nat} {a b : World} (h : Keeps B a b) (hB : B ≤ B') : Keeps B' a b := fun p v hb hv => h p v (Nat.le_trans hB hb) hv
theorem Keeps.grown {B : Nat} {a b : World} {row : Option Nat} (h : a.grownBy b row) (hr : ∀ k, row = some k → k < B) : Keeps B a b := fun p v hB hv =>
  h.cell hv fun e => by have := hr _ e.symm; omega
theorem RowOf.gen {α : Type} {L L' B B' k : Nat} {w w' : World} {R R' : List Value → α → Prop} {v : Value} {xs : List α} (h : RowOf L B w k R v xs) (hL : xs.length ≤ L') (hB : B' ≤ B) (hw : Keeps B w w')
    (hR : ∀ cs x, x ∈ xs → R cs x → R' cs x) : RowOf L' B' w' k R' v xs := by
  obtain ⟨a, cap, rfl, h0, h1, h2, h3, h4⟩ := h
  refine ⟨a, cap, rfl, hL, h1, h2, h3, fun hne => ?_⟩
  obtain ⟨b, off, rfl, hb, hc⟩ := h4 hne
  refine ⟨b, off, rfl, Nat.le_trans hB hb, fun i hi => ?_⟩
  obtain ⟨cs, e1, e2, e3⟩ := hc i hi
  exact ⟨cs, e1, fun j u hu => hw ⟨b, off + i * k + j, none⟩ u hb (e2 j u hu), hR _ _ (List.getElem_mem hi) e3⟩
theorem RowOf.len {α : Type} {L B k : Nat} {w : World} {R : List Value → α → Prop} {v : Value} {xs : List α} (h : RowOf L B w k R v xs) : xs.length ≤ L := by
  obtain ⟨a, cap, rfl, h0, -⟩ := h; exact h0
theorem RowOf.imp {α : Type} {L B k : Nat} {w w' : World} {R R' : List Value → α → Prop} {v : Value} {xs : List α} (h : RowOf L B w k R v xs) (hw : RowKit.Below w.heap.size w w')
    (hR : ∀ cs x, x ∈ xs → R cs x → R' cs x) : RowOf L B w' k R' v xs := h.gen h.len (Nat.le_refl _) (.of_below hw) hR
theorem RVal.gen {L L' B B' : Nat} {w w' : World} {R R' : List Value → Msg → Prop} {cs : List Value} {x : Val} (h : RVal L B w R cs x) (hL : x.m.length ≤ L') (hB : B' ≤ B) (hw : Keeps B w w') (hR : ∀ cs m, m ∈ x.m → R cs m → R' cs m) : RVal L' B' w' R' cs x := by
  obtain ⟨c, rfl, h1, h2, h3, h4⟩ := h
  exact ⟨c, rfl, h1, h2, h3, h4.gen hL hB hw hR⟩
theorem RVal.imp {L B : Nat} {w w' : World} {R R' : List Value → Msg → Prop} {cs : List Value} {x : Val} (h : RVal L B w R cs x) (hw : RowKit.Below w.heap.size w w') (hR : ∀ cs m, m ∈ x.m → R cs m → R' cs m) : RVal L B w' R' cs x := by
  obtain ⟨c, rfl, h1, h2, h3, h4⟩ := h
  exact ⟨c, rfl, h1, h2, h3, h4.imp hw hR⟩
/-- How long may a slot's rows be? -/
def Slot.rows (L : Nat) (s : Slot) : Prop := s.k.length ≤ L ∧ s.v.length ≤ L ∧ ∀ x, x ∈ s.k ∨ x ∈ s.v → x.m.length ≤ L
theorem RSlot.gen {L L' B B' : Nat} {w w' : World} {R R' : List Value → Msg → Prop} {cs : List Value} {s : Slot} (h : RSlot L B w R cs s) (hL : Slot.rows L' s) (hB : B' ≤ B) (hw : Keeps B w w') (hR : ∀ cs m, (∃ x, (x ∈ s.k ∨ x ∈ s.v) ∧ m ∈ x.m) → R cs m → R' cs m) : RSlot L' B' w' R' cs s := by
  obtain ⟨c, d, rfl, h1, h2, h3, h4⟩ := h
  exact ⟨c, d, rfl, h1, h2, h3.gen hL.1 hB hw fun _ x hx h => h.gen (hL.2.2 x (.inl hx)) hB hw fun _ _ hm h => hR _ _ ⟨x, .inl hx, hm⟩ h, h4.gen hL.2.1 hB hw fun _ x hx h => h.gen (hL.2.2 x (.inr hx)) hB hw fun _ _ hm h => hR _ _ ⟨x, .inr hx, hm⟩ h⟩
theorem RSlot.rows {L B : Nat} {w : World} {R : List Value → Msg → Prop} {cs : List Value} {s : Slot} (h : RSlot L B w R cs s) : Slot.rows L s := by
  obtain ⟨c, d, rfl, h1, h2, h3, h4⟩ := h
  refine ⟨h3.len, h4.len, ?_⟩
  rintro x (hx | hx)
  · obtain ⟨a, cap, -, -, -, -, -, h⟩ := h3
    obtain ⟨i, hi, rfl⟩ := List.mem_iff_getElem.1 hx
    obtain ⟨_, _, _, _, h⟩ := h (by intro e; rw [e] at hi; simp at hi)
    obtain ⟨_, _, _, _, _, _, _, _, h⟩ := h i hi
    exact h.len
  · obtain ⟨a, cap, -, -, -, -, -, h⟩ := h4
    obtain ⟨i, hi, rfl⟩ := List.mem_iff_getElem.1 hx
    obtain ⟨_, _, _, _, h⟩ := h (by intro e; rw [e] at hi; simp at hi)
    obtain ⟨_, _, _, _, _, _, _, _, h⟩ := h i hi
    exact h.len
theorem RSlot.imp {L B : Nat} {w w' : World} {R R' : List Value → Msg → Prop} {cs : List Value} {s : Slot} (h : RSlot L B w R cs s) (hw : RowKit.Below w.heap.size w w') (hR : ∀ cs m, R cs m → R' cs m) : RSlot L B w' R' cs s :=
  h.gen h.rows (Nat.le_refl _) (.of_below hw) fun _ _ _ h => hR _ _ h
/-- What stays from block B on reads as it did, with more levels, too. -/
theorem RMsg.keep {L B B' : Nat} (hB : B' ≤ B) {w w' : World} (hw : Keeps B w w') : ∀ (n n' : Nat) {cs : List Value} {m : Msg}, n ≤ n' → RMsg L B w n cs m → RMsg L B' w' n' cs m
  | 0, _, _, _, _, h => h.elim
  | n + 1, 0, _, _, hn, h => by omega
  | n + 1, n' + 1, _, _, hn, h => by
    obtain ⟨c, rfl, h⟩ := h
    exact ⟨c, rfl, h.gen h.len hB hw fun _ _ _ h => h.gen h.rows hB hw fun _ _ _ h => RMsg.keep hB hw n n' (by omega) h⟩
/-- Old memory stands: what it reads as stands. -/
theorem RMsg.below {L B : Nat} {w w' : World} (hw : RowKit.Below w.heap.size w w') (n : Nat) {cs : List Value} {m : Msg} (h : RMsg L B w n cs m) : RMsg L B w' n cs m :=
  RMsg.keep (Nat.le_refl _) (.of_below hw) n n (Nat.le_refl _) h
theorem RVal.keep {L B B' n n' : Nat} (hB : B' ≤ B) (hn : n ≤ n') {w w' : World} {cs : List Value} {x : Val} (h : RVal L B w (RMsg L B w n) cs x) (hw : Keeps B w w') : RVal L B' w' (RMsg L B' w' n') cs x :=
  h.gen (by obtain ⟨_, _, _, _, _, h⟩ := h; exact h.len) hB hw fun _ _ _ h => RMsg.keep hB hw n n' hn h
theorem RSlot.keep {L B B' n n' : Nat} (hB : B' ≤ B) (hn : n ≤ n') {w w' : World} {cs : List Value} {s : Slot} (h : RSlot L B w (RMsg L B w n) cs s) (hw : Keeps B w w') : RSlot L B' w' (RMsg L B' w' n') cs s :=
  h.gen h.rows hB hw fun _ _ _ h => RMsg.keep hB hw n n' hn h
theorem RVal.below {L B n : Nat} {w w' : World} {cs : List Value} {x : Val} (h : RVal L B w (RMsg L B w n) cs x) (hw : RowKit.Below w.heap.size w w') : RVal L B w' (RMsg L B w' n) cs x :=
  h.imp hw fun _ _ _ h => RMsg.below hw n h
theorem RSlot.below {L B n : Nat} {w w' : World} {cs : List Value} {s : Slot} (h : RSlot L B w (RMsg L B w n) cs s) (hw : RowKit.Below w.heap.size w w') : RSlot L B w' (RMsg L B w' n) cs s :=
  h.imp hw fun _ _ h => RMsg.below hw n h
/-- The messages of a message's values. -/
def Msg.vals (m : Msg) : List Val := m.f.flatMap fun s => s.k ++ s.v
def Msg.subs (m : Msg) : List Msg := m.vals.flatMap fun x => x.m
theorem Msg.subs_lt {m x : Msg} (h : x ∈ m.subs) : SizeOf.sizeOf x < SizeOf.sizeOf m := by
  obtain ⟨f⟩ := m
  simp only [Msg.subs, Msg.vals, Msg.f, List.mem_flatMap, List.mem_append] at h
  obtain ⟨y, ⟨s, hs, hy⟩, hx⟩ := h
  have h1 := List.sizeOf_lt_of_mem hs
  have h2 := List.sizeOf_lt_of_mem hx
  obtain ⟨no, k, v⟩ := s
  obtain ⟨n, t, ms⟩ := y
  have h3 : SizeOf.sizeOf (ValOf.mk n t ms) < SizeOf.sizeOf (SlotOf.mk no k v) := by
    rcases hy with hy | hy
    · have := List.sizeOf_lt_of_mem hy; simp at this ⊢; omega
    · have := List.sizeOf_lt_of_mem hy; simp at this ⊢; omega
  simp at h1 h2 h3 ⊢
  omega
/-- How deep. -/
def Msg.deep (m : Msg) : Nat := ((m.subs.attach.map fun x => x.1.deep).foldl max 0) + 1
termination_by SizeOf.sizeOf m
decreasing_by exact Msg.subs_lt x.2
theorem Msg.deep_eq (m : Msg) : m.deep = (m.subs.map Msg.deep).foldl max 0 + 1 := by
  rw [Msg.deep]
  congr 2
  simp
/-- How many values. -/
def Msg.size (m : Msg) : Nat := m.vals.length + (m.subs.attach.map fun x => x.1.size).sum
termination_by SizeOf.sizeOf m
decreasing_by exact Msg.subs_lt x.2
theorem Msg.size_eq (m : Msg) : m.size = m.vals.length + (m.subs.map Msg.size).sum := by
  rw [Msg.size]
  congr 2
  simp
/-- What a row's reader owes: it stands while old memory stands. -/
def Stands {α : Type} (R : World → List Value → α → Prop) : Prop := ∀ w w' cs x, RowKit.Below w.heap.size w w' → R w cs x → R w' cs x
def Three {α : Type} (R : World → List Value → α → Prop) : Prop := ∀ w cs x, R w cs x → ∃ c0 c1 c2, cs = [c0, c1, c2] ∧ c0.oneCell' = true ∧ c1.oneCell' = true ∧ c2.oneCell' = true
def One {α : Type} (R : World → List Value → α → Prop) : Prop := ∀ w cs x, R w cs x → ∃ c, cs = [c] ∧ c.oneCell' = true
theorem RowOf.get {α : Type} {L B k n cap : Nat} {w : World} {R : List Value → α → Prop} {a : Option Addr} {xs : List α} (h : RowOf L B w k R (.slice a n cap) xs) (i : Nat) (hi : i < xs.length) :
    ∃ b off, a = some ⟨b, off, none⟩ ∧ B ≤ b ∧ ∃ cs, cs.length = k ∧ (∀ j u, cs[j]? = some u → w.cell? ⟨b, off + i * k + j, none⟩ = some u) ∧ R cs xs[i] := by
  obtain ⟨a', cap', e, -, -, -, -, h4⟩ := h
  cases e
  obtain ⟨b, off, e, hB, hc⟩ := h4 (by intro h; subst h; simp at hi)
  exact ⟨b, off, e, hB, hc i hi⟩
theorem RowOf.get3 {α : Type} {L B n cap : Nat} {w : World} {R : World → List Value → α → Prop} (h3 : Three R) {a : Option Addr} {xs : List α} (h : RowOf L B w 3 (R w) (.slice a n cap) xs) (i : Nat) (hi : i < xs.length) :
    ∃ b off c0 c1 c2, a = some ⟨b, off, none⟩ ∧ B ≤ b ∧ w.cell? ⟨b, off + i * 3, none⟩ = some c0 ∧ w.cell? ⟨b, off + i * 3 + 1, none⟩ = some c1 ∧ w.cell? ⟨b, off + i * 3 + 2, none⟩ = some c2 ∧
      c0.oneCell' = true ∧ c1.oneCell' = true ∧ c2.oneCell' = true ∧ R w [c0, c1, c2] xs[i] := by
  obtain ⟨b, off, e, hB, cs, -, hc, hr⟩ := h.get i hi
  obtain ⟨c0, c1, c2, rfl, o0, o1, o2⟩ := h3 _ _ _ hr
  exact ⟨b, off, c0, c1, c2, e, hB, hc 0 c0 rfl, hc 1 c1 rfl, hc 2 c2 rfl, o0, o1, o2, hr⟩
theorem RowOf.get1 {α : Type} {L B n cap : Nat} {w : World} {R : World → List Value → α → Prop} (h1 : One R) {a : Option Addr} {xs : List α} (h : RowOf L B w 1 (R w) (.slice a n cap) xs) (i : Nat) (hi : i < xs.length) :
    ∃ b off c, a = some ⟨b, off, none⟩ ∧ B ≤ b ∧ w.cell? ⟨b, off + i, none⟩ = some c ∧ c.oneCell' = true ∧ R w [c] xs[i] := by
  obtain ⟨b, off, e, hB, cs, -, hc, hr⟩ := h.get i hi
  obtain ⟨c, rfl, o⟩ := h1 _ _ _ hr
  exact ⟨b, off, c, e, hB, by simpa using hc 0 c rfl, o, hr⟩
end Go.Tr
