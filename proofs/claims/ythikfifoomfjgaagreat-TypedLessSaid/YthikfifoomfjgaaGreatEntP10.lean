/- typed's map of keys: the last entry of each key; a range over it. cmp.Compare, cmp.Or; slices.SortFunc at slots by number, and at numbers. Contract of typed.entries: a map's entries, the last ones of each key, by rising keys. -/
import Derived.Test.YthikfifoomfjgaaGreatTyP10
import Derived.Maps.RangeWalk
import Derived.DeepKeys4
import Derived.Test.YthikfifoomfjgaaGreatShalP10
import Derived.Test.YthikfifoomfjgaaGreatLay10
import Derived.Test.YthikfifoomfjgaaGreatOwn
import Derived.Test.YthikfifoomfjgaaGreatMsgP10
import Derived.Deep.AppendLies
import Derived.Deep.RegionHeld3
import Derived.BigRegion
namespace Go
theorem pos_succ {n : Nat} (h : 0 < n) : ∃ m, n = m + 1 := ⟨n - 1, by omega⟩
section
variable {P : Program} {k : TypeId} {f0 f1 : Field} (hu : P.underlying k = some (.struct #[f0, f1])) (ck : P.cellsOf k = 2)
  (h0 : P.underlying f0.type = some (.int .i64)) (h1 : P.underlying f1.type = some .string) (o0 : f0.offset = 0) (o1 : f1.offset = 1) (c0 : P.cellsOf f0.type = 1) (c1 : P.cellsOf f1.type = 1) (n0 : (f0.name != "_") = true) (n1 : (f1.name != "_") = true)
include hu ck h0 h1 o0 o1 c0 c1
include n0 n1 in
theorem keyLits2 (m : Nat) (x : Int) (s : ByteArray) (hx : (Lit.int .i64 x).wf = true) (hs : s.size ≤ maxLen) : P.keyLits (m + 1 + 1) k [.int .i64 x, .string s] = some [.int .i64 x, .string s.data.toList] := by
  unfold Program.keyLits
  simp only [hu]
  rw [if_pos ⟨by rw [ck]; rfl, by simp [n0, n1]⟩]
  simp [o0, o1, c0, c1, Program.keyLits, h0, h1, hx, hs]
theorem keyLits2_inv (m : Nat) (cs : List Value) (L : List Lit) (h : P.keyLits (m + 1 + 1) k cs = some L) : ∃ x s, cs = [.int .i64 x, .string s] ∧ (Lit.int .i64 x).wf = true ∧ s.size ≤ maxLen := by
  unfold Program.keyLits at h
  simp only [hu] at h
  split at h
  · rename_i hl
    rw [ck] at hl
    obtain ⟨a, b, rfl⟩ : ∃ a b, cs = [a, b] := by
      match cs, hl.1 with
      | [a, b], _ => exact ⟨a, b, rfl⟩
    simp only [Option.map_eq_some_iff, List.mapM_cons, List.mapM_nil, o0, o1, c0, c1] at h
    obtain ⟨Ls, h, -⟩ := h
    simp [Program.keyLits, h0, h1] at h
    cases a <;> simp at h
    cases b <;> simp at h
    rename_i q x s
    by_cases e1 : q = IntKind.i64 ∧ (Lit.int IntKind.i64 x).wf = true
    · by_cases e2 : s.size ≤ maxLen
      · exact ⟨x, s, by rw [e1.1], e1.2, e2⟩
      · rw [if_neg e2, if_pos e1] at h; simp at h
    · rw [if_neg e1] at h; simp at h
  · cases h
end
end Go
namespace Go.Proofs.YthikfifoomfjgaaGreat
open Go.RowKit Go.Tr Go.WideMaps Go.Maps Go.Proofs.YthikfifoomfjgaaGreat.PA Go.Proofs.YthikfifoomfjgaaGreatW.PrintWords Go.Proofs.YthikfifoomfjgaaGreatW.PrintLast Go.Proofs.YthikfifoomfjgaaGreatW.PrintMore
set_option maxRecDepth 100000
set_option linter.unusedVariables false
set_option linter.unusedSimpArgs false
abbrev Key := Int × ByteArray
def keyV (k : Key) : Value := .agg #[.int .i64 k.1, .string k.2]
def keyFit (k : Key) : Prop := (Lit.int .i64 k.1).wf = true ∧ k.2.size ≤ maxLen
theorem laid10 : laidOutB Tryz.prog = true := by kernel_rfl
theorem lawKey : Maps.Keyed Tryz.prog 116 := Keyed.of_law (deep_law_laid laid10 (m := 2) (by omega) (of_decide_eq_true (by kernel_rfl)) (by kernel_rfl) (by rw [Tryz.underlying116]))
theorem keyType10 : Tryz.prog.keyType 116 = true := by kernel_rfl
theorem cellsKey : Tryz.prog.cellsOf 116 = 2 := by kernel_rfl
theorem sizeTy : ∃ m, Tryz.prog.types.size = m + 1 := pos_succ (of_decide_eq_true (by kernel_rfl))
theorem keyOf_mk {k : Key} (h : keyFit k) : ∃ kl, keyOf Tryz.prog 116 (keyV k) = some kl := by
  obtain ⟨m, hm⟩ := sizeTy
  have e := keyLits2 (P := Tryz.prog) Tryz.underlying116 cellsKey Tryz.underlying2 Tryz.underlying9 rfl rfl (by kernel_rfl) (by kernel_rfl) (by decide) (by decide) m k.1 k.2 h.1 h.2
  unfold keyOf
  simp only [Tryz.underlying116]
  rw [if_pos (by simp [keyType10, keyV, Value.formed, Tryz.underlying116, cellsKey]), hm]
  unfold keyV Value.cells
  simp only [e]
  exact ⟨_, rfl⟩
theorem keyOf_inv {v : Value} {kl : Lit} (h : keyOf Tryz.prog 116 v = some kl) : ∃ k : Key, v = keyV k ∧ keyFit k := by
  obtain ⟨xs, L, rfl, hl, -⟩ := keyOf_top (by rw [Tryz.underlying116]) h
  obtain ⟨m, hm⟩ := sizeTy
  rw [hm] at hl
  obtain ⟨x, s, hx, h1, h2⟩ := keyLits2_inv (P := Tryz.prog) Tryz.underlying116 cellsKey Tryz.underlying2 Tryz.underlying9 rfl rfl (by kernel_rfl) (by kernel_rfl) m _ _ hl
  exact ⟨(x, s), by unfold keyV; congr 1; exact Array.ext' (by simpa using hx), h1, h2⟩
noncomputable def keyL (k : Key) : Lit := (keyOf Tryz.prog 116 (keyV k)).getD (.bool false)
theorem keyL_eq {k : Key} (h : keyFit k) : keyOf Tryz.prog 116 (keyV k) = some (keyL k) := by
  obtain ⟨kl, e⟩ := keyOf_mk h
  unfold keyL
  rw [e]; rfl
theorem keyV_inj {k k' : Key} (h : keyV k = keyV k') : k = k' := by
  unfold keyV at h
  simp at h
  exact Prod.ext h.1 h.2
theorem keyL_inj {k k' : Key} (h : keyFit k) (h' : keyFit k') (e : keyL k = keyL k') : k = k' := keyV_inj (lawKey.inj (keyL_eq h) (e ▸ keyL_eq h'))
theorem keyL_key {k : Key} (h : keyFit k) : WideAt.IsKeyLit (keyL k) := lawKey.key (keyL_eq h)
theorem keyL_same {k k' : Key} (h : keyFit k) (h' : keyFit k') : (keyL k).sameKey (keyL k') = decide (k = k') := by
  by_cases e : k = k'
  · subst e; rw [WideAt.sameKey_self (keyL_key h)]; simp
  · simp [e]
    cases hs : (keyL k).sameKey (keyL k')
    · rfl
    · exact absurd (keyL_inj h h' (WideAt.sameKey_eq hs)) e
/-- The last one of the first i keys that is this one. -/
def lastIx (ks : List Key) : Nat → Key → Option Nat
  | 0, _ => none
  | i + 1, k => if ks[i]? = some k then some i else lastIx ks i k
theorem lastIx_some {ks : List Key} {k : Key} : ∀ {i j : Nat}, lastIx ks i k = some j → j < i ∧ ks[j]? = some k ∧ ∀ t, j < t → t < i → ks[t]? ≠ some k
  | 0, _, h => by simp [lastIx] at h
  | i + 1, j, h => by
    unfold lastIx at h
    split at h
    · rename_i e
      obtain rfl : i = j := by simpa using h
      exact ⟨by omega, e, fun t h1 h2 => by omega⟩
    · rename_i e
      obtain ⟨h1, h2, h3⟩ := lastIx_some h
      exact ⟨by omega, h2, fun t t1 t2 => by
        by_cases et : t = i
        · subst et; exact e
        · exact h3 t t1 (by omega)⟩
theorem lastIx_none {ks : List Key} {k : Key} : ∀ {i : Nat}, lastIx ks i k = none → ∀ t, t < i → ks[t]? ≠ some k
  | 0, _, t, h => by omega
  | i + 1, h, t, ht => by
    unfold lastIx at h
    split at h
    · cases h
    · rename_i e
      by_cases et : t = i
      · subst et; exact e
      · exact lastIx_none h t (by omega)
def KD (ks : List Key) (i : Nat) (D : DataW Unit) : Prop := ∀ k, keyFit k → ∀ zd, D.atKey (keyL k) zd = match lastIx ks i k with | none => zd | some j => .lit (.int .i64 j)
/-- A map from keys to the last ones' places. -/
def KeyMap (b n : Nat) (ks : List Key) (i : Nat) (w : World) : Prop := ∃ D : DataW Unit, w.ownsMap Tryz.prog 116 (plainElem Tryz.prog 3) b n D ∧ KD ks i D
theorem KeyMap.new (ks : List Key) (w : World) : KeyMap w.heap.size 0 ks 0 (w.alloc (.map #[] 0)) := ⟨.map [], World.ownsMap_made _ _ _ _, fun k _ zd => by simp [DataW.atKey, lastIx]⟩
theorem KeyMap.kept {b n i : Nat} {ks : List Key} {w w' : World} {row : Option Nat} (h : KeyMap b n ks i w) (hg : w.grownBy w' row) (hne : some b ≠ row) : KeyMap b n ks i w' := by
  obtain ⟨D, h1, h2⟩ := h
  exact ⟨D, h1.kept hg hne, h2⟩
theorem KeyMap.lt {b n i : Nat} {ks : List Key} {w : World} (h : KeyMap b n ks i w) : b < w.heap.size := by
  obtain ⟨D, h1, -⟩ := h; exact h1.lt
theorem KeyMap.below {b n i : Nat} {ks : List Key} {w w' : World} (h : KeyMap b n ks i w) (hb : Below w.heap.size w w') : KeyMap b n ks i w' :=
  h.kept (row := none) ⟨hb.os, hb.tape, hb.output, hb.size, fun k hk _ => hb.block k hk⟩ (by simp)
theorem KeyMap.update {b n i : Nat} {ks : List Key} {w : World} (h : KeyMap b n ks i w) (hn : n < maxLen) {k : Key} (hk : keyFit k) (hi : ks[i]? = some k) (hw : (Lit.int .i64 (i : Int)).wf = true) :
    ∃ w', (Instr.mapUpdate 114 (.map (some b)) (keyV k) (.int .i64 i)).run Tryz.prog w = .ok () w' ∧ KeyMap b (n + 1) ks (i + 1) w' ∧ w.grownBy w' (some b) := by
  obtain ⟨D, h1, h2⟩ := h
  obtain ⟨w', hrun, ho, hg⟩ := h1.update lawKey Tryz.underlying114 hn (keyL_eq hk) (plainElem_int Tryz.underlying3 hw)
  refine ⟨w', hrun, ⟨_, ho, fun k' hk' zd => ?_⟩, hg⟩
  by_cases e : k' = k
  · subst e
    rw [atKey_put_same h1.isMap (keyL_key hk)]
    simp [lastIx, hi]
  · rw [atKey_put_other (fun e' => e (keyL_inj hk' hk e')), h2 k' hk']
    have : ¬ ks[i]? = some k' := by rw [hi]; simpa using fun e' => e e'.symm
    simp [lastIx, this]
/-- What a range over it has told. -/
def Coll (ks : List Key) (left : Lit → Bool) (js : List Nat) : Prop := js.Nodup ∧ ∀ j, j ∈ js ↔ ∃ k, ks[j]? = some k ∧ lastIx ks ks.length k = some j ∧ left (keyL k) = false
theorem Coll.start {ks : List Key} {D : DataW Unit} (hf : ∀ k ∈ ks, keyFit k) (h : KD ks ks.length D) : Coll ks (Maps.has D) [] := ⟨List.nodup_nil, fun j => by
  simp only [List.not_mem_nil, false_iff, not_exists, not_and]
  intro k h1 h2 h3
  have hk := hf k (List.mem_of_getElem? h1)
  have := h k hk
  rw [h2] at this
  rw [has_true_of_atKey this] at h3
  cases h3⟩
theorem Coll.step {ks : List Key} {D : DataW Unit} {left : Lit → Bool} {js : List Nat} (hf : ∀ k ∈ ks, keyFit k) (h : Coll ks left js) (hD : KD ks ks.length D) {k : Key} (hk : keyFit k) (hlk : left (keyL k) = true) {c : Int} (hat : ∀ zd, D.atKey (keyL k) zd = .lit (.int .i64 c)) :
    ∃ j : Nat, c = j ∧ j < ks.length ∧ Coll ks (fun z => left z && !z.sameKey (keyL k)) (js ++ [j]) := by
  have hD' := hD k hk
  cases hj : lastIx ks ks.length k with
  | none =>
    rw [hj] at hD'
    have h1 := hD' (.lit (.bool false))
    rw [hat] at h1
    cases h1
  | some j =>
    rw [hj] at hD'
    have h1 := hD' (.lit (.bool false))
    rw [hat] at h1
    obtain rfl : c = j := by simpa using h1
    obtain ⟨j1, j2, j3⟩ := lastIx_some hj
    have hnew : j ∉ js := fun hm => by
      obtain ⟨k', e1, e2, e3⟩ := (h.2 j).1 hm
      rw [j2] at e1
      obtain rfl : k = k' := by simpa using e1
      rw [hlk] at e3; cases e3
    refine ⟨j, rfl, j1, List.nodup_append.2 ⟨h.1, by simp, fun a ha b hb => by simp at hb; subst hb; exact fun e => hnew (e ▸ ha)⟩, fun t => ?_⟩
    rw [List.mem_append, h.2 t]
    constructor
    · rintro (⟨k', e1, e2, e3⟩ | e)
      · exact ⟨k', e1, e2, by simp [e3]⟩
      · obtain rfl : t = j := by simpa using e
        exact ⟨k, j2, hj, by simp [WideAt.sameKey_self (keyL_key hk)]⟩
    · rintro ⟨k', e1, e2, e3⟩
      have hk' := hf k' (List.mem_of_getElem? e1)
      simp only [keyL_same hk' hk] at e3
      by_cases e : k' = k
      · subst e
        rw [hj] at e2
        right; simpa using e2.symm
      · left
        exact ⟨k', e1, e2, by simpa [e] using e3⟩
/-- The places of the last ones of each key. -/
def Lasts (ks : List Key) (js : List Nat) : Prop := js.Nodup ∧ ∀ j, j ∈ js ↔ ∃ k, ks[j]? = some k ∧ lastIx ks ks.length k = some j
theorem Coll.done {ks : List Key} {left : Lit → Bool} {js : List Nat} (h : Coll ks left js) (hl : ∀ kl, left kl = false) : Lasts ks js := ⟨h.1, fun j => by rw [h.2 j]; simp [hl]⟩
theorem Lasts.lt {ks : List Key} {js : List Nat} (h : Lasts ks js) {j : Nat} (hj : j ∈ js) : j < ks.length := by
  obtain ⟨k, h1, -⟩ := (h.2 j).1 hj
  exact (List.getElem?_eq_some_iff.1 h1).1
theorem Coll.len {ks : List Key} {left : Lit → Bool} {js : List Nat} (h : Coll ks left js) : js.length ≤ ks.length := by
  have : js ⊆ List.range ks.length := fun j hj => by
    obtain ⟨k, h1, -⟩ := (h.2 j).1 hj
    exact List.mem_range.2 (List.getElem?_eq_some_iff.1 h1).1
  simpa using List.Nodup.length_le_of_subset h.1 this
end Go.Proofs.YthikfifoomfjgaaGreat
namespace Go
open Go.Shelf Go.RowKit Go.Lib Go.Sort
set_option linter.unusedVariables false
set_option linter.unusedSimpArgs false
section
variable {α : Type} [Inhabited α]
theorem heap_sortedA {w : World} {g n : Nat} {os : Array Obj} {cur : Array Value} {e : TypeId} {fr : Nat × Nat} (enc : α → Value) (d : Array α) (hb : w.heap[g]? = some (.cells cur e fr)) :
    (grow (putRow enc (Sort.ahead w n) g 0 d) os).heap[g]? = some (.cells (putCells enc 0 d cur) e fr) := by
  have hg : g < w.heap.size := (Array.getElem?_eq_some_iff.1 hb).1
  rw [heap_grow_old _ _ (by simpa using hg)]
  simp [putRow, mapBlock, Sort.ahead, Array.getElem?_modify, hb, onCells]
theorem grownBy_sortedA {w : World} {g n : Nat} {os : Array Obj} (enc : α → Value) (d : Array α) : w.grownBy (grow (putRow enc (Sort.ahead w n) g 0 d) os) (some g) := by
  refine ⟨rfl, rfl, rfl, by simp, fun k hk hne => ?_⟩
  rw [heap_grow_old _ _ (by simpa using hk)]
  have : g ≠ k := fun e => hne (by rw [e])
  simp [putRow, mapBlock, Sort.ahead, Array.getElem?_modify, this]
theorem take_putCellsA (enc : α → Value) (cur : Array Value) (d : Array α) (h : d.size ≤ cur.size) : (putCells enc 0 d cur).toList.take d.size = d.toList.map enc := by
  apply List.ext_getElem?
  intro j
  by_cases hj : j < d.size
  · rw [List.getElem?_take_of_lt hj, Array.getElem?_toList]
    simp [putCells, hj, show j < cur.size by omega]
  · rw [List.getElem?_take_eq_none (by omega), List.getElem?_eq_none (by simp; omega)]
theorem owns_sorted {w : World} {base g cap n m k : Nat} {e : TypeId} {os : Array Obj} {ys : List Value} (enc : α → Value) (d : Array α) (h : w.ownsRow base e k (.slice (some ⟨g, 0, none⟩) n cap) n ys) (hd : d.size = n * k) :
    (grow (putRow enc (Sort.ahead w m) g 0 d) os).ownsRow base e k (.slice (some ⟨g, 0, none⟩) n cap) n (d.toList.map enc) := by
  obtain ⟨h1, h2⟩ := h
  rcases h2 with ⟨h2, -⟩ | ⟨g', c, cur, h2, h3, h4, h5, h6, h7, h8⟩
  · cases h2
  · cases h2
    have hs : n * k ≤ cap * k := Nat.mul_le_mul_right _ h5
    exact ⟨by simp [hd], .inr ⟨g, _, _, rfl, h3, heap_sortedA enc d h4, h5, h6, by simp [putCells, h7], by rw [← hd]; exact take_putCellsA enc cur d (by omega)⟩⟩
theorem holds_owned {w : World} {base g cap n k : Nat} {e : TypeId} (enc : α → Value) (d : Array α) (h : w.ownsRow base e k (.slice (some ⟨g, 0, none⟩) n cap) n (d.toList.map enc)) : Holds enc w g 0 d := fun j hj => by
  refine ⟨?_, h.frozenAt _⟩
  rw [Nat.zero_add, h.cellAt j (by have := h.1; simp at this; omega)]
  simp [hj]
end
theorem flatMap_get {α : Type} [Inhabited α] (enc : α → List Value) (k : Nat) (hk : 0 < k) (he : ∀ x, (enc x).length = k) : ∀ (d : List α) (t : Nat), t < d.length * k → (d.flatMap enc)[t]? = some (enc d[t / k]!)[t % k]!
  | [], t, h => by simp at h
  | x :: d, t, h => by
    rw [List.flatMap_cons]
    by_cases ht : t < k
    · rw [List.getElem?_append_left (by rw [he]; exact ht), Nat.div_eq_of_lt ht, Nat.mod_eq_of_lt ht]
      simp [he, ht]
    · have e1 : t / k = (t - k) / k + 1 := Nat.div_eq_sub_div hk (by omega)
      have e2 : t % k = (t - k) % k := Nat.mod_eq_sub_mod (by omega)
      rw [List.getElem?_append_right (by rw [he]; omega), he, flatMap_get enc k hk he d (t - k) (by simp [Nat.add_mul] at h; omega), e1, e2]
      simp
theorem flatK_list {α : Type} [Inhabited α] (enc : α → List Value) (k : Nat) (hk : 0 < k) (he : ∀ x, (enc x).length = k) (d : List α) : (flatK enc k d.toArray).toList = d.flatMap enc := by
  have hl : (d.flatMap enc).length = d.length * k := by
    induction d with
    | nil => simp
    | cons x d ih => simp [he, ih, Nat.add_mul]; omega
  apply List.ext_getElem?
  intro t
  by_cases ht : t < d.length * k
  · rw [flatMap_get enc k hk he d t ht]
    simp [flatK, ht]
  · rw [List.getElem?_eq_none (by simp [flatK]; omega), List.getElem?_eq_none (by rw [hl]; omega)]
end Go
namespace Go.Proofs.YthikfifoomfjgaaGreat
open Go.Shelf Go.RowKit Go.Lib Go.Sort
set_option maxRecDepth 100000
set_option linter.unusedVariables false
set_option linter.unusedSimpArgs false
/-! texts, byte by byte -/
namespace Bl
open Go.Op
theorem less_irrefl : ∀ a : List UInt8, bytesLess a a = false
  | [] => rfl
  | x :: r => by simp [bytesLess, less_irrefl r]
theorem less_asymm : ∀ a b : List UInt8, bytesLess a b = true → bytesLess b a = false
  | [], [], h => by simp [bytesLess] at h
  | [], _ :: _, _ => rfl
  | _ :: _, [], h => by simp [bytesLess] at h
  | x :: r, y :: s, h => by
    simp only [bytesLess, Bool.or_eq_true, decide_eq_true_eq, Bool.and_eq_true, beq_iff_eq, Bool.or_eq_false_iff, decide_eq_false_iff_not, Bool.and_eq_false_iff, beq_eq_false_iff_ne] at h ⊢
    rcases h with h | ⟨rfl, h⟩
    · refine ⟨fun h' => ?_, .inl fun h' => ?_⟩
      · rw [UInt8.lt_iff_toNat_lt] at h h'; omega
      · subst h'; rw [UInt8.lt_iff_toNat_lt] at h; omega
    · refine ⟨fun h' => ?_, .inr (less_asymm r s h)⟩
      rw [UInt8.lt_iff_toNat_lt] at h'; omega
theorem less_total : ∀ a b : List UInt8, a ≠ b → (bytesLess a b || bytesLess b a) = true
  | [], [], h => absurd rfl h
  | [], _ :: _, _ => rfl
  | _ :: _, [], _ => rfl
  | x :: r, y :: s, h => by
    by_cases e : x = y
    · subst e
      have := less_total r s (fun e => h (by rw [e]))
      simpa [bytesLess] using this
    · have : x < y ∨ y < x := by
        simp only [UInt8.lt_iff_toNat_lt]
        have : x.toNat ≠ y.toNat := fun h => e (UInt8.toNat_inj.1 h)
        omega
      rcases this with h1 | h1 <;> simp [bytesLess, h1]
theorem less_trans : ∀ a b c : List UInt8, bytesLess a b = true → bytesLess b c = true → bytesLess a c = true
  | _, [], _, h, _ => by simp [bytesLess] at h
  | _, _ :: _, [], _, h => by simp [bytesLess] at h
  | [], _ :: _, _ :: _, _, _ => rfl
  | x :: r, y :: s, z :: t, h, k => by
    simp only [bytesLess, Bool.or_eq_true, decide_eq_true_eq, Bool.and_eq_true, beq_iff_eq] at h k ⊢
    rcases h with h | ⟨rfl, h⟩
    · rcases k with k | ⟨rfl, k⟩
      · left; rw [UInt8.lt_iff_toNat_lt] at *; omega
      · exact .inl h
    · rcases k with k | ⟨rfl, k⟩
      · exact .inl k
      · exact .inr ⟨rfl, less_trans r s t h k⟩
end Bl
theorem isNaN_int (x : Int) (w : World) : Calls Tryz.prog 99 #[.int .i64 x] w fun e w' => e = .returned (.bool false) ∧ w = w' := by
  go_enter Tryz.func99, Tryz.ntmps99
  go_wp2
  go_ret
  exact ⟨by simp, rfl⟩
theorem isNaN_i64 (x : Int) (w : World) : Calls Tryz.prog 119 #[.int .i64 x] w fun e w' => e = .returned (.bool false) ∧ w = w' := by
  go_enter Tryz.func119, Tryz.ntmps119
  go_wp2
  go_ret
  exact ⟨by simp, rfl⟩
theorem isNaN_str (x : ByteArray) (w : World) : Calls Tryz.prog 120 #[.string x] w fun e w' => e = .returned (.bool false) ∧ w = w' := by
  go_enter Tryz.func120, Tryz.ntmps120
  go_wp2
  go_ret
  exact ⟨by simp, rfl⟩
set_option maxHeartbeats 1000000 in
theorem cmp_int (x y : Int) (w : World) : Calls Tryz.prog 59 #[.int .i64 x, .int .i64 y] w fun e w' => e = .returned (.int .i64 (Lib.compareInt x y)) ∧ w = w' := by
  go_enter Tryz.func59, Tryz.ntmps59
  go_wp2_with (go_at_call 99; refine (isNaN_int _ _).mono ?_; rintro e w' ⟨rfl, rfl⟩)
  all_goals (go_ret; refine ⟨?_, rfl⟩; unfold Lib.compareInt; (repeat' split) <;> first | rfl | (exfalso; omega))
set_option maxHeartbeats 1000000 in
theorem cmp_i64 (x y : Int) (w : World) : Calls Tryz.prog 95 #[.int .i64 x, .int .i64 y] w fun e w' => e = .returned (.int .i64 (Lib.compareInt x y)) ∧ w = w' := by
  go_enter Tryz.func95, Tryz.ntmps95
  go_wp2_with (go_at_call 119; refine (isNaN_i64 _ _).mono ?_; rintro e w' ⟨rfl, rfl⟩)
  all_goals (go_ret; refine ⟨?_, rfl⟩; unfold Lib.compareInt; (repeat' split) <;> first | rfl | (exfalso; omega))
def cmpS (x y : ByteArray) : Int := if Op.bytesLess x.toList y.toList = true then -1 else if Op.bytesLess y.toList x.toList = true then 1 else 0
set_option maxHeartbeats 1000000 in
theorem cmp_str (x y : ByteArray) (w : World) : Calls Tryz.prog 96 #[.string x, .string y] w fun e w' => e = .returned (.int .i64 (cmpS x y)) ∧ w = w' := by
  go_enter Tryz.func96, Tryz.ntmps96
  go_wp2_with (go_at_call 120; refine (isNaN_str _ _).mono ?_; rintro e w' ⟨rfl, rfl⟩)
  all_goals (go_ret; refine ⟨?_, rfl⟩; unfold cmpS; first | (simp_all; done) | (by_cases e : x.toList = y.toList <;> first | (simp_all [Bl.less_irrefl]; done) | (have := Bl.less_total _ _ e; simp_all)))
set_option maxHeartbeats 1000000 in
theorem cmp_or (g : Nat) (x y : Int) (w : World) (h0 : w.cell? ⟨g, 0, none⟩ = some (.int .i64 x)) (h1 : w.cell? ⟨g, 1, none⟩ = some (.int .i64 y)) :
    Calls Tryz.prog 94 #[.slice (some ⟨g, 0, none⟩) 2 2] w fun e w' => e = .returned (.int .i64 (if x = 0 then y else x)) ∧ w = w' := by
  have b0 := block_lt_of_cell h0
  go_enter Tryz.func94, Tryz.ntmps94
  go_wp2
  by_cases hx : x = 0
  · by_cases hy : y = 0
    · refine wp_loop_rounds 3 ?_
      rw [rounds_succ]; go_wp2
      rw [rounds_succ]; go_wp2
      rw [rounds_succ]; go_wp2
      go_ret
      exact ⟨by simp [hx, hy], rfl⟩
    · refine wp_loop_rounds 2 ?_
      rw [rounds_succ]; go_wp2
      rw [rounds_succ]; go_wp2
      go_ret
      exact ⟨by simp [hx], rfl⟩
  · refine wp_loop_rounds 1 ?_
    rw [rounds_succ]; go_wp2
    go_ret
    exact ⟨by simp [hx], rfl⟩
/-! slots by number -/
abbrev SC := Int × (Option Addr × Nat × Nat) × (Option Addr × Nat × Nat)
def encS (x : SC) : List Value := [.int .i64 x.1, .slice x.2.1.1 x.2.1.2.1 x.2.1.2.2, .slice x.2.2.1 x.2.2.2.1 x.2.2.2.2]
theorem slot_cmp (x y : SC) (W : World) : Calls Tryz.prog 58 #[.agg (encS x).toArray, .agg (encS y).toArray] W fun e w' => e = .returned (.int .i64 (Lib.compareInt x.1 y.1)) ∧ ∃ q os', w' = grow (W.drewN q) os' := by
  have hcon := fun W' => cmp_int x.1 y.1 W'
  generalize Lib.compareInt x.1 y.1 = r at hcon ⊢
  unfold encS
  go_enter Tryz.func58, Tryz.ntmps58
  go_wp2_with (go_at_call 59; refine (hcon _).mono ?_; rintro e w' ⟨rfl, rfl⟩)
  go_ret
  exact ⟨rfl, 0, _, by rw [alloc_eq_grow, alloc_eq_grow, grow_grow]; rfl⟩
theorem lt_no (x y : SC) : ltOf (fun x y : SC => Lib.compareInt x.1 y.1) x y = decide (x.1 < y.1) := by
  unfold ltOf Lib.compareInt
  by_cases h1 : x.1 < y.1
  · simp [h1]
  · by_cases h2 : y.1 < x.1 <;> simp [h1, h2]
theorem swo_no : SWO (ltOf fun x y : SC => Lib.compareInt x.1 y.1) where
  irrefl x := by rw [lt_no]; simp
  trans x y z h1 h2 := by rw [lt_no] at *; simp at *; omega
  ntrans x y z h1 h2 := by rw [lt_no] at *; simp at *; omega
theorem perm_of_permIn {α : Type} [Inhabited α] {d : List α} {d' : Array α} (h : PermIn 0 d.length d.toArray d') : d'.toList.Perm d ∧ d'.size = d.length := by
  obtain ⟨h1, -, h3⟩ := h
  have e1 : d'.size = d.length := by simpa using h1
  refine ⟨?_, e1⟩
  have a1 : d'.extract 0 d.length = d' := by rw [← e1]; exact Array.extract_size ..
  have a2 : d.toArray.extract 0 d.length = d.toArray := by rw [show d.length = d.toArray.size by simp]; exact Array.extract_size ..
  rw [a1, a2] at h3
  simpa using h3
/-- slices.SortFunc at slots, by number. -/
theorem sort_slots (base g cap : Nat) (d : List SC) (w : World) (h : w.ownsRow base 35 3 (.slice (some ⟨g, 0, none⟩) d.length cap) d.length (d.flatMap encS)) (hsz : d.length < 4611686018427387904) :
    Calls Tryz.prog 57 #[.slice (some ⟨g, 0, none⟩) d.length cap, .func (.func 58) #[] #[]] w fun e w' =>
      e = .returned (.tuple #[]) ∧ ∃ d' : List SC, d'.Perm d ∧ d'.Pairwise (fun x y => x.1 ≤ y.1) ∧ w'.ownsRow base 35 3 (.slice (some ⟨g, 0, none⟩) d.length cap) d.length (d'.flatMap encS) ∧ w.grownBy w' (some g) := by
  have he : ∀ x, (encS x).length = 3 := fun _ => rfl
  have hH : HoldsK encS 3 w g 0 d.toArray := holds_owned id _ (by rw [List.map_id, flatK_list encS 3 (by omega) he]; exact h)
  have hcon := AnyQ.slices_SortFunc Tryz.sortSlots 3 (fun w => by kernel_rfl) (fun w => by kernel_rfl) encS he (fun x v hv => by simp [encS] at hv; rcases hv with rfl | rfl | rfl <;> rfl) (fun x y => Lib.compareInt x.1 y.1) swo_no 58 #[] g 0 cap d.toArray w
    (enters_of Tryz.func58 (by kernel_rfl) rfl) (fun _ _ _ _ x y => slot_cmp x y _) hH (h.lt g rfl).2 (by simpa using hsz)
  change Calls Tryz.prog 57 _ _ _ at hcon
  rw [show d.toArray.size = d.length by simp] at hcon
  refine hcon.mono ?_
  rintro e w' ⟨rfl, d', m, os, hp, hs, rfl⟩
  obtain ⟨p1, p2⟩ := perm_of_permIn hp
  refine ⟨rfl, d'.toList, p1, ?_, ?_, grownBy_sortedA id _⟩
  · refine List.pairwise_iff_getElem.2 fun i j hi hj hij => ?_
    have := hs i j (Nat.zero_le _) hij (by simpa [p2] using hj)
    rw [lt_no] at this
    simp at this hi hj
    rw [getElem!_pos d' i (by omega), getElem!_pos d' j (by omega)] at this
    simpa using this
  · have := owns_sorted (m := m) (os := os) id (flatK encS 3 d') h (by simp [flatK, p2])
    have e0 : (flatK encS 3 d').toList = d'.toList.flatMap encS := by have := flatK_list encS 3 (by omega) he d'.toList; simpa using this
    rw [List.map_id, e0] at this
    exact this
/-! places by their keys -/
def keyLt (a b : Key) : Bool := decide (a.1 < b.1) || (decide (a.1 = b.1) && Op.bytesLess a.2.toList b.2.toList)
def cmpKey (a b : Key) : Int := if Lib.compareInt a.1 b.1 = 0 then cmpS a.2 b.2 else Lib.compareInt a.1 b.1
theorem cmpKey_neg (a b : Key) : decide (cmpKey a b < 0) = keyLt a b := by
  unfold cmpKey keyLt Lib.compareInt cmpS
  by_cases h1 : a.1 < b.1
  · simp [h1]
  · by_cases h2 : b.1 < a.1
    · have : ¬ a.1 = b.1 := by omega
      simp [h1, h2, this]
    · have : a.1 = b.1 := by omega
      simp [this]
      cases Op.bytesLess a.2.toList b.2.toList <;> cases Op.bytesLess b.2.toList a.2.toList <;> simp
theorem keyLt_irrefl (a : Key) : keyLt a a = false := by simp [keyLt, Bl.less_irrefl]
theorem keyLt_trans (a b c : Key) (h : keyLt a b = true) (k : keyLt b c = true) : keyLt a c = true := by
  simp only [keyLt, Bool.or_eq_true, Bool.and_eq_true, decide_eq_true_eq] at *
  rcases h with h | ⟨h1, h2⟩
  · rcases k with k | ⟨k1, k2⟩
    · left; omega
    · left; omega
  · rcases k with k | ⟨k1, k2⟩
    · left; omega
    · right; exact ⟨by omega, Bl.less_trans _ _ _ h2 k2⟩
theorem keyLt_total (a b : Key) (h : a ≠ b) : keyLt a b = true ∨ keyLt b a = true := by
  simp only [keyLt, Bool.or_eq_true, Bool.and_eq_true, decide_eq_true_eq]
  by_cases h1 : a.1 < b.1
  · exact .inl (.inl h1)
  · by_cases h2 : b.1 < a.1
    · exact .inr (.inl h2)
    · have e : a.1 = b.1 := by omega
      have hs : a.2.toList ≠ b.2.toList := fun e2 => h (Prod.ext e (by
        rw [Lib.toList_data, Lib.toList_data] at e2
        exact ByteArray.ext (Array.toList_inj.1 e2)))
      have := Bl.less_total _ _ hs
      rw [Bool.or_eq_true] at this
      rcases this with h | h
      · exact .inl (.inr ⟨e, h⟩)
      · exact .inr (.inr ⟨e.symm, h⟩)
theorem keyLt_asymm (a b : Key) (h : keyLt a b = true) : keyLt b a = false := by
  cases k : keyLt b a
  · rfl
  · have := keyLt_trans a b a h k; rw [keyLt_irrefl] at this; cases this
theorem keyLt_ntrans (a b c : Key) (h : keyLt a b = false) (k : keyLt b c = false) : keyLt a c = false := by
  cases e : keyLt a c
  · rfl
  · by_cases hab : a = b
    · subst hab; rw [e] at k; cases k
    · rcases keyLt_total a b hab with h' | h'
      · rw [h] at h'; cases h'
      · have := keyLt_trans b a c h' e; rw [k] at this; cases this
set_option maxHeartbeats 4000000 in
theorem ints_cmp (bx gk capk : Nat) (ks : List Key) (a b : Nat) (ha : a < ks.length) (hb : b < ks.length) (W : World) (hl : ks.length ≤ 1099511627776)
    (c1 : W.cell? ⟨bx, 1, none⟩ = some (.slice (some ⟨gk, 0, none⟩) ks.length capk)) (hk : ∀ t (h : t < ks.length), W.cell? ⟨gk, t * 3, none⟩ = some (.int .i64 ks[t].1) ∧ W.cell? ⟨gk, t * 3 + 1, none⟩ = some (.string ks[t].2)) :
    Calls Tryz.prog 93 #[.int .i64 a, .int .i64 b, .pointer (some ⟨bx, 0, none⟩)] W fun e w' => e = .returned (.int .i64 (cmpKey ks[a] ks[b])) ∧ ∃ q os', w' = grow (W.drewN q) os' := by
  obtain ⟨a0, a1⟩ := hk a ha
  obtain ⟨b0, b1⟩ := hk b hb
  clear hk
  have lb := block_lt_of_cell c1
  have lk := block_lt_of_cell a0
  unfold cmpKey
  generalize ks[a] = ka at a0 a1 ⊢
  generalize ks[b] = kb at b0 b1 ⊢
  generalize ks.length = n at ha hb hl c1
  have hcon := Lib.hid fun W' => cmp_i64 ka.1 kb.1 W'
  generalize Lib.compareInt ka.1 kb.1 = r at hcon ⊢
  have hcos := Lib.hid fun W' => cmp_str ka.2 kb.2 W'
  generalize cmpS ka.2 kb.2 = s at hcos ⊢
  generalize ka.1 = ka1 at a0 hcon
  generalize ka.2 = ka2 at a1 hcos
  generalize kb.1 = kb1 at b0 hcon
  generalize kb.2 = kb2 at b1 hcos
  have hco' := fun W' g h0 h1 => cmp_or g r s W' h0 h1
  generalize (if r = 0 then s else r) = z at hco' ⊢
  have hco := Lib.hid hco'
  clear hco'
  have hs0 : W.cell? ⟨bx, 1, none⟩ = some (.slice (some ⟨gk, 0, none⟩) n capk) ∧ W.cell? ⟨gk, a * 3, none⟩ = some (.int .i64 ka1) ∧ W.cell? ⟨gk, a * 3 + 1, none⟩ = some (.string ka2) ∧ W.cell? ⟨gk, b * 3, none⟩ = some (.int .i64 kb1) ∧ W.cell? ⟨gk, b * 3 + 1, none⟩ = some (.string kb2) := ⟨c1, a0, a1, b0, b1⟩
  go_enter Tryz.func93, Tryz.ntmps93
  go_upto_region 1 with fail
  have hk := hs0
  have o0 : (W.alloc (.cells #[.int .i64 r, .int .i64 s] 3)).drew.cell? ⟨W.heap.size, 0, none⟩ = some (.int .i64 r) := by simp [go_sem]
  have o1 : (W.alloc (.cells #[.int .i64 r, .int .i64 s] 3)).drew.cell? ⟨W.heap.size, 1, none⟩ = some (.int .i64 s) := by simp [go_sem]
  go_region_held3 (fun w' => w'.cell? ⟨bx, 1, none⟩ = some (.slice (some ⟨gk, 0, none⟩) n capk) ∧ w'.cell? ⟨gk, a * 3, none⟩ = some (.int .i64 ka1) ∧ w'.cell? ⟨gk, a * 3 + 1, none⟩ = some (.string ka2) ∧ w'.cell? ⟨gk, b * 3, none⟩ = some (.int .i64 kb1) ∧ w'.cell? ⟨gk, b * 3 + 1, none⟩ = some (.string kb2))
    (first | exact hk | (go_keep; done))
    (first
      | (go_at_call 95; (with_reducible refine (hcon.out _).mono ?_); rintro e w1 ⟨rfl, rfl⟩)
      | (go_at_call 96; (with_reducible refine (hcos.out _).mono ?_); rintro e w2 ⟨rfl, rfl⟩)
      | (go_at_call 94; (with_reducible refine (hco.out _ _ o0 o1).mono ?_); rintro e w3 ⟨rfl, rfl⟩))
  go_wp2_with fail
  go_ret
  exact ⟨rfl, 1, _, by rw [alloc_eq_grow]; rfl⟩
def kth (ks : List Key) (t : Nat) : Key := ks.getD t (0, ByteArray.empty)
theorem kth_lt {ks : List Key} {t : Nat} (h : t < ks.length) : kth ks t = ks[t] := by simp [kth, h]
theorem cell_sortWorld {α : Type} [Inhabited α] {enc : α → Value} {w : World} {blk off m : Nat} {dk : Array α} {os : Array Obj} {a : Addr} {v : Value} (h : w.cell? a = some v) (ha : a.block ≠ blk) : (sortWorld enc w blk off m dk os).cell? a = some v := by
  have hl := block_lt_of_cell h
  unfold sortWorld
  rw [cell?_grow _ _ _ (by simpa [Sort.ahead] using hl), cell?_putRow_other _ _ _ _ _ _ (.inl ha)]
  exact h
theorem sort_idx (base g cap bx gk capk : Nat) (ks : List Key) (js : List Nat) (h0 : 0 < ks.length) (hl : ks.length ≤ 1099511627776) (hj : ∀ j ∈ js, j < ks.length) (hjl : js.length ≤ ks.length) (w : World)
    (h : w.ownsRow base 3 1 (.slice (some ⟨g, 0, none⟩) js.length cap) js.length (js.map fun (j : Nat) => .int .i64 (j : Int)))
    (c1 : w.cell? ⟨bx, 1, none⟩ = some (.slice (some ⟨gk, 0, none⟩) ks.length capk)) (hk : ∀ t (h : t < ks.length), w.cell? ⟨gk, t * 3, none⟩ = some (.int .i64 ks[t].1) ∧ w.cell? ⟨gk, t * 3 + 1, none⟩ = some (.string ks[t].2)) (n1 : bx ≠ g) (n2 : gk ≠ g) :
    Calls Tryz.prog 92 #[.slice (some ⟨g, 0, none⟩) js.length cap, .func (.func 93) #[] #[.pointer (some ⟨bx, 0, none⟩)]] w fun e w' =>
      e = .returned (.tuple #[]) ∧ ∃ js' : List Nat, js'.Perm js ∧ js'.Pairwise (fun a b => keyLt (kth ks b) (kth ks a) = false) ∧ w'.ownsRow base 3 1 (.slice (some ⟨g, 0, none⟩) js.length cap) js.length (js'.map fun (j : Nat) => .int .i64 (j : Int)) ∧ w.grownBy w' (some g) := by
  obtain ⟨m, hm⟩ := pos_succ h0
  let enc : Fin (m + 1) → Value := fun i => .int .i64 (i.1 : Int)
  let cf : Fin (m + 1) → Fin (m + 1) → Int := fun i j => cmpKey (kth ks i.1) (kth ks j.1)
  have lt_cf : ∀ x y, ltOf cf x y = keyLt (kth ks x.1) (kth ks y.1) := fun x y => cmpKey_neg _ _
  have swo : SWO (ltOf cf) := ⟨fun x => by rw [lt_cf]; exact keyLt_irrefl _, fun x y z a b => by rw [lt_cf] at *; exact keyLt_trans _ _ _ a b, fun x y z a b => by rw [lt_cf] at *; exact keyLt_ntrans _ _ _ a b⟩
  obtain ⟨d, hd⟩ : ∃ d : List (Fin (m + 1)), d.map (fun i => i.1) = js := by
    refine ⟨js.pmap (fun j hj => ⟨j, hj⟩) (fun j h => by have := hj j h; omega), ?_⟩
    rw [List.map_pmap]
    simp
  have hdl : d.length = js.length := by rw [← hd]; simp
  have hmap : d.map enc = js.map fun (j : Nat) => .int .i64 (j : Int) := by rw [← hd, List.map_map]; rfl
  have hH : Holds enc w g 0 d.toArray := holds_owned enc _ (by rw [List.toList_toArray, hmap]; exact h)
  have hcon := Any.slices_SortFunc Tryz.sortInts enc (fun _ => rfl) cf swo 93 #[.pointer (some ⟨bx, 0, none⟩)] g 0 cap d.toArray w (enters_of Tryz.func93 (by kernel_rfl) rfl)
    (fun q os dk hs x y => by
      have := ints_cmp bx gk capk ks x.1 y.1 (by omega) (by omega) (sortWorld enc w g 0 q dk os) hl (cell_sortWorld c1 n1) (fun t ht => ⟨cell_sortWorld (hk t ht).1 n2, cell_sortWorld (hk t ht).2 n2⟩)
      rw [← kth_lt, ← kth_lt] at this
      exact this) hH (h.lt g rfl).2 (by simp [hdl]; omega)
  change Calls Tryz.prog 92 _ _ _ at hcon
  rw [show d.toArray.size = js.length by simp [hdl]] at hcon
  refine hcon.mono ?_
  rintro e w' ⟨rfl, d', q, os, hp, hs, rfl⟩
  rw [← hdl] at hp
  obtain ⟨p1, p2⟩ := perm_of_permIn hp
  refine ⟨rfl, d'.toList.map (fun i => i.1), by rw [← hd]; exact p1.map _, ?_, ?_, grownBy_sortedA enc _⟩
  · rw [List.pairwise_map]
    refine List.pairwise_iff_getElem.2 fun i j hi hj' hij => ?_
    have := hs i j (Nat.zero_le _) hij (by simp at hj'; omega)
    rw [lt_cf] at this
    simp at this hi hj'
    rw [getElem!_pos d' i (by omega), getElem!_pos d' j (by omega)] at this
    simpa using this
  · have := owns_sorted (m := q) (os := os) enc d' h (by omega)
    rw [List.map_map]
    exact this
end Go.Proofs.YthikfifoomfjgaaGreat
namespace Go.Proofs.YthikfifoomfjgaaGreat
open Go.RowKit Go.Tr Go.WideMaps Go.Maps Go.Proofs.YthikfifoomfjgaaGreat.PA Go.Proofs.YthikfifoomfjgaaGreatW.PrintWords Go.Proofs.YthikfifoomfjgaaGreatW.PrintLast Go.Proofs.YthikfifoomfjgaaGreatW.PrintMore
set_option maxRecDepth 100000
set_option linter.unusedVariables false
set_option linter.unusedSimpArgs false
/-- A value's cells. -/
abbrev VC := Int × ByteArray × (Option Addr × Nat × Nat)
def encV (x : VC) : List Value := [.int .i64 x.1, .string x.2.1, .slice x.2.2.1 x.2.2.2.1 x.2.2.2.2]
def keysV (l : List VC) : List Key := l.map fun x => (x.1, x.2.1)
/-- Values' cells in a block, from its beginning on. -/
def VRow (w : World) (g : Nat) (l : List VC) : Prop := ∀ t (h : t < l.length), w.cell? ⟨g, t * 3, none⟩ = some (.int .i64 l[t].1) ∧ w.cell? ⟨g, t * 3 + 1, none⟩ = some (.string l[t].2.1) ∧ w.cell? ⟨g, t * 3 + 2, none⟩ = some (.slice l[t].2.2.1 l[t].2.2.2.1 l[t].2.2.2.2)
theorem VRow.below {w w' : World} {g : Nat} {l : List VC} (h : VRow w g l) (hb : Below w.heap.size w w') : VRow w' g l := fun t ht => by
  obtain ⟨a, b, c⟩ := h t ht
  exact ⟨(hb.cell (block_lt_of_cell a)).trans a, (hb.cell (block_lt_of_cell b)).trans b, (hb.cell (block_lt_of_cell c)).trans c⟩
/-- An operation that a walk's tactics do not look into. -/
def keepOp (o : Oper) : Oper := o
theorem keepOp_load (d x : Nat) (t : TypeId) (p : String) (af : Array Edge) : (Oper.mk (some d) (.load t (.tmp x)) t p af none) = keepOp (Oper.mk (some d) (.load t (.tmp x)) t p af none) := rfl
attribute [local go_sem] keepOp
/-- One value's cells. -/
def VAt (w : World) (g j : Nat) (x : VC) : Prop := w.cell? ⟨g, j * 3, none⟩ = some (.int .i64 x.1) ∧ w.cell? ⟨g, j * 3 + 1, none⟩ = some (.string x.2.1) ∧ w.cell? ⟨g, j * 3 + 2, none⟩ = some (.slice x.2.2.1 x.2.2.2.1 x.2.2.2.2)
theorem VRow.at_ {w : World} {g : Nat} {l : List VC} (h : VRow w g l) {t : Nat} (ht : t < l.length) : VAt w g t l[t] := h t ht
theorem VAt.below {w w' : World} {g j : Nat} {x : VC} (h : VAt w g j x) (hb : Below w.heap.size w w') : VAt w' g j x := by
  obtain ⟨a, b, c⟩ := h
  exact ⟨(hb.cell (block_lt_of_cell a)).trans a, (hb.cell (block_lt_of_cell b)).trans b, (hb.cell (block_lt_of_cell c)).trans c⟩
theorem keep8e {w : World} {B b o gk gv a c : Nat} {s1 s2 k0 k1 k2 v0 v1 v2 u : Value} (hb : b < B) (hkv : gk < B ∧ gv < B) (h : w.cell? ⟨b, 1, none⟩ = some s1 ∧ w.cell? ⟨b, 2, none⟩ = some s2 ∧ w.cell? ⟨gk, a, none⟩ = some k0 ∧ w.cell? ⟨gk, a + 1, none⟩ = some k1 ∧ w.cell? ⟨gk, a + 2, none⟩ = some k2 ∧ w.cell? ⟨gv, c, none⟩ = some v0 ∧ w.cell? ⟨gv, c + 1, none⟩ = some v1 ∧ w.cell? ⟨gv, c + 2, none⟩ = some v2) :
    (w.setCell ⟨B, o, none⟩ u).cell? ⟨b, 1, none⟩ = some s1 ∧ (w.setCell ⟨B, o, none⟩ u).cell? ⟨b, 2, none⟩ = some s2 ∧ (w.setCell ⟨B, o, none⟩ u).cell? ⟨gk, a, none⟩ = some k0 ∧ (w.setCell ⟨B, o, none⟩ u).cell? ⟨gk, a + 1, none⟩ = some k1 ∧ (w.setCell ⟨B, o, none⟩ u).cell? ⟨gk, a + 2, none⟩ = some k2 ∧ (w.setCell ⟨B, o, none⟩ u).cell? ⟨gv, c, none⟩ = some v0 ∧ (w.setCell ⟨B, o, none⟩ u).cell? ⟨gv, c + 1, none⟩ = some v1 ∧ (w.setCell ⟨B, o, none⟩ u).cell? ⟨gv, c + 2, none⟩ = some v2 := by
  obtain ⟨h1, h2, h3, h4, h5, h6, h7, h8⟩ := h
  have f : ∀ q : Addr, q.block < B → (w.setCell ⟨B, o, none⟩ u).cell? q = w.cell? q := fun q hq => World.cell?_setCell_other _ _ _ _ (fun e => by rw [← e] at hq; exact absurd hq (by simp))
  refine ⟨?_, ?_, ?_, ?_, ?_, ?_, ?_, ?_⟩
  · rw [f _ hb]; exact h1
  · rw [f _ hb]; exact h2
  · rw [f _ hkv.1]; exact h3
  · rw [f _ hkv.1]; exact h4
  · rw [f _ hkv.1]; exact h5
  · rw [f _ hkv.2]; exact h6
  · rw [f _ hkv.2]; exact h7
  · rw [f _ hkv.2]; exact h8
theorem lt_blkE {w : World} {b : Nat} {o : Obj} (h : w.heap[b]? = some o) : b < w.heap.size := (Array.getElem?_eq_some_iff.1 h).1
def At3 (w : World) (b t : Nat) (c0 c1 c2 : Value) : Prop := w.heap[b]? = some (.cells #[c0, c1, c2] t (0, 0))
theorem At3.lt {w : World} {b t : Nat} {c0 c1 c2 : Value} (h : At3 w b t c0 c1 c2) : b < w.heap.size := (Array.getElem?_eq_some_iff.1 h).1
theorem At3.kept {w w' : World} {row : Option Nat} {b t : Nat} {c0 c1 c2 : Value} (h : At3 w b t c0 c1 c2) (hg : w.grownBy w' row) (hne : some b ≠ row) : At3 w' b t c0 c1 c2 := (hg.block b h.lt hne).trans h
theorem At3.below {w w' : World} {b t : Nat} {c0 c1 c2 : Value} (h : At3 w b t c0 c1 c2) (hb : Below w.heap.size w w') : At3 w' b t c0 c1 c2 := (hb.block b h.lt).trans h
theorem At3.cells {w : World} {b t : Nat} {c0 c1 c2 : Value} (h : At3 w b t c0 c1 c2) : w.cell? ⟨b, 0, none⟩ = some c0 ∧ w.cell? ⟨b, 1, none⟩ = some c1 ∧ w.cell? ⟨b, 2, none⟩ = some c2 ∧ ∀ o, w.frozen? ⟨b, o, none⟩ = false :=
  ⟨cell_of_row w b 0 _ _ (0, 0) h, cell_of_row w b 1 _ _ (0, 0) h, cell_of_row w b 2 _ _ (0, 0) h, fun o => by simp [World.frozen?, show w.heap[b]? = _ from h]⟩
theorem At3.new (w : World) (t : Nat) (c0 c1 c2 : Value) : At3 (w.alloc (.cells #[c0, c1, c2] t)) w.heap.size t c0 c1 c2 := heap_alloc_new _ _
/-- Two rows of one's own that grow, and the slot that holds them. -/
def E3 (w6 : World) (no : Int) (wr : World) (ok ov vk : Value) (nk : Nat) (ysk : List Value) (vv : Value) (nv : Nat) (ysv : List Value) : Prop :=
  wr.ownsRow (w6.heap.size + 1) 39 3 vk nk ysk ∧ wr.ownsRow (w6.heap.size + 1) 39 3 vv nv ysv ∧ (∀ q, vk.ownBlock = some q → vv.ownBlock ≠ some q) ∧ At3 wr w6.heap.size 35 (.int .i64 no) ok ov ∧ Below w6.heap.size w6 wr
section
variable {w6 wr w9 : World} {no : Int} {ok ov vk vv : Value} {nk nv : Nat} {ysk ysv : List Value}
theorem E3.alloc (h : E3 w6 no wr ok ov vk nk ysk vv nv ysv) (o : Obj) : E3 w6 no (wr.alloc o) ok ov vk nk ysk vv nv ysv := by
  obtain ⟨h1, h2, h3, h4, h5⟩ := h
  exact ⟨h1.alloc o, h2.alloc o, h3, h4.below (al1 wr o), h5.nx (al1 wr o)⟩
theorem E3.drew (h : E3 w6 no wr ok ov vk nk ysk vv nv ysv) : E3 w6 no wr.drew ok ov vk nk ysk vv nv ysv := by
  obtain ⟨h1, h2, h3, h4, h5⟩ := h
  exact ⟨h1.drew, h2.drew, h3, h4, h5.drew⟩
theorem E3.below (h : E3 w6 no wr ok ov vk nk ysk vv nv ysv) (hb : Below wr.heap.size wr w9) : E3 w6 no w9 ok ov vk nk ysk vv nv ysv := by
  obtain ⟨h1, h2, h3, h4, h5⟩ := h
  exact ⟨owns_below h1 hb, owns_below h2 hb, h3, h4.below hb, h5.nx hb⟩
theorem ownBlock_ne {a b : Value} (h : ∀ q, a.ownBlock = some q → b.ownBlock ≠ some q) : b.ownBlock = none ∨ b.ownBlock ≠ a.ownBlock := by
  cases hb : b.ownBlock with
  | none => exact .inl rfl
  | some q => exact .inr fun e => h q e.symm hb
theorem E3.appK (h : E3 w6 no wr ok ov vk nk ysk vv nv ysv) {g cap n' : Nat} {ys' : List Value} (ho : w9.ownsRow (w6.heap.size + 1) 39 3 (.slice (some ⟨g, 0, none⟩) n' cap) n' ys') (hg : wr.grownBy w9 vk.ownBlock) (hl : vk.ownBlock = some g ∨ g = wr.heap.size) : E3 w6 no w9 ok ov (.slice (some ⟨g, 0, none⟩) n' cap) n' ys' vv nv ysv := by
  obtain ⟨h1, h2, h3, h4, h5⟩ := h
  refine ⟨ho, h2.kept hg (ownBlock_ne h3), fun q hq hv => ?_, h4.kept hg fun e => ?_, h5.grown hg h5.size fun q hq => ?_⟩
  · have e : q = g := by simpa [Value.ownBlock] using hq.symm
    subst e
    rcases hl with hl | rfl
    · exact h3 _ hl hv
    · exact absurd (h2.lt _ hv).2 (by omega)
  · have := (h1.lt _ e.symm).1; omega
  · have := (h1.lt _ hq).1; omega
theorem E3.appV (h : E3 w6 no wr ok ov vk nk ysk vv nv ysv) {g cap n' : Nat} {ys' : List Value} (ho : w9.ownsRow (w6.heap.size + 1) 39 3 (.slice (some ⟨g, 0, none⟩) n' cap) n' ys') (hg : wr.grownBy w9 vv.ownBlock) (hl : vv.ownBlock = some g ∨ g = wr.heap.size) : E3 w6 no w9 ok ov vk nk ysk (.slice (some ⟨g, 0, none⟩) n' cap) n' ys' := by
  obtain ⟨h1, h2, h3, h4, h5⟩ := h
  refine ⟨h1.kept hg (ownBlock_ne fun q hq hv => h3 q hv hq), ho, fun q hq hv => ?_, h4.kept hg fun e => ?_, h5.grown hg h5.size fun q hq => ?_⟩
  · have e : q = g := by simpa [Value.ownBlock] using hv.symm
    subst e
    rcases hl with hl | rfl
    · exact h3 _ hq hl
    · exact absurd (h1.lt _ hq).2 (by omega)
  · have := (h2.lt _ e.symm).1; omega
  · have := (h2.lt _ hq).1; omega
theorem E3.setK (h : E3 w6 no wr ok ov vk nk ysk vv nv ysv) (u : Value) : E3 w6 no (wr.setCell ⟨w6.heap.size, 1, none⟩ u) u ov vk nk ysk vv nv ysv := by
  obtain ⟨h1, h2, h3, h4, h5⟩ := h
  have hg := grown_set wr ⟨w6.heap.size, 1, none⟩ u
  have hne : ∀ {v : Value} {n : Nat} {ys : List Value}, wr.ownsRow (w6.heap.size + 1) 39 3 v n ys → v.ownBlock = none ∨ v.ownBlock ≠ some w6.heap.size := fun {v n ys} h => by
    cases hb : v.ownBlock with
    | none => exact .inl rfl
    | some q => exact .inr fun e => by have := (h.lt q hb).1; cases e; omega
  refine ⟨h1.kept hg (hne h1), h2.kept hg (hne h2), h3, ?_, h5.setCell (by simp) u⟩
  have := heap_setCell_same wr w6.heap.size 1 _ _ u h4
  simpa [At3] using this
theorem E3.setV (h : E3 w6 no wr ok ov vk nk ysk vv nv ysv) (u : Value) : E3 w6 no (wr.setCell ⟨w6.heap.size, 2, none⟩ u) ok u vk nk ysk vv nv ysv := by
  obtain ⟨h1, h2, h3, h4, h5⟩ := h
  have hg := grown_set wr ⟨w6.heap.size, 2, none⟩ u
  have hne : ∀ {v : Value} {n : Nat} {ys : List Value}, wr.ownsRow (w6.heap.size + 1) 39 3 v n ys → v.ownBlock = none ∨ v.ownBlock ≠ some w6.heap.size := fun {v n ys} h => by
    cases hb : v.ownBlock with
    | none => exact .inl rfl
    | some q => exact .inr fun e => by have := (h.lt q hb).1; cases e; omega
  refine ⟨h1.kept hg (hne h1), h2.kept hg (hne h2), h3, ?_, h5.setCell (by simp) u⟩
  have := heap_setCell_same wr w6.heap.size 2 _ _ u h4
  simpa [At3] using this
end
theorem owns_slice {w : World} {base n k : Nat} {e : TypeId} {v : Value} {ys : List Value} (h : w.ownsRow base e k v n ys) : ∃ a c, v = .slice a n c := by
  rcases h.2 with ⟨rfl, rfl⟩ | ⟨g, cap, cur, rfl, -⟩
  · exact ⟨none, 0, rfl⟩
  · exact ⟨_, _, rfl⟩
theorem Lasts.ne {ks : List Key} {js : List Nat} (h : Lasts ks js) (h0 : 0 < ks.length) : js ≠ [] := fun e => by
  subst e
  have hk : ks[0]? = some ks[0] := by simp [h0]
  cases hj : lastIx ks ks.length ks[0] with
  | none => exact lastIx_none hj 0 h0 hk
  | some j =>
    have := (h.2 j).2 ⟨ks[0], (lastIx_some hj).2.1, hj⟩
    cases this
theorem owns_set {w : World} {B e k n : Nat} {v : Value} {ys : List Value} (h : w.ownsRow B e k v n ys) {p : Addr} (hp : p.block < B) (u : Value) : (w.setCell p u).ownsRow B e k v n ys :=
  h.kept (grown_set w p u) (by
    cases hb : v.ownBlock with
    | none => exact .inl rfl
    | some q => exact .inr fun e => by have := (h.lt q hb).1; injection e with e; omega)
theorem owns_lower {w : World} {B B' e k n : Nat} {v : Value} {ys : List Value} (h : w.ownsRow B e k v n ys) (hB : B' ≤ B) : w.ownsRow B' e k v n ys := by
  obtain ⟨h1, h2⟩ := h
  refine ⟨h1, h2.imp id ?_⟩
  rintro ⟨g, cap, cur, rfl, h4, h5⟩
  exact ⟨g, cap, cur, rfl, by omega, h5⟩
theorem owns_some {w : World} {B e k n : Nat} {v : Value} {ys : List Value} (h : w.ownsRow B e k v n ys) (hn : n ≠ 0) : ∃ g c, v = .slice (some ⟨g, 0, none⟩) n c := by
  rcases h.2 with ⟨-, h⟩ | ⟨g, cap, cur, rfl, -⟩
  · exact absurd h hn
  · exact ⟨_, _, rfl⟩
theorem Lasts.perm {ks : List Key} {js js' : List Nat} (h : Lasts ks js) (hp : js'.Perm js) : Lasts ks js' := ⟨hp.nodup_iff.2 h.1, fun j => by rw [hp.mem_iff]; exact h.2 j⟩
theorem Lasts.strict {ks : List Key} {js : List Nat} (h : Lasts ks js) (hp : js.Pairwise fun a b => keyLt (kth ks b) (kth ks a) = false) : js.Pairwise fun a b => keyLt (kth ks a) (kth ks b) = true := by
  refine (List.pairwise_and_iff.2 ⟨hp, h.1⟩).imp_of_mem fun {a b} ha hb ⟨h1, h2⟩ => ?_
  obtain ⟨ka, a1, a2⟩ := (h.2 a).1 ha
  obtain ⟨kb, b1, b2⟩ := (h.2 b).1 hb
  have ea : kth ks a = ka := by simp [kth, List.getD_eq_getElem?_getD, a1]
  have eb : kth ks b = kb := by simp [kth, List.getD_eq_getElem?_getD, b1]
  rw [ea, eb] at h1 ⊢
  rcases keyLt_total ka kb (fun e => h2 (by subst e; rw [a2] at b2; injection b2)) with h3 | h3
  · exact h3
  · rw [h1] at h3; cases h3
/-- What typed.entries leaves. -/
def EntPost (w : World) (no : Int) (kc vc : List VC) (e : Ending) (w' : World) : Prop :=
  ∃ js gk' ck gv' cv, Lasts (keysV kc) js ∧ js.Pairwise (fun a b => keyLt (kth (keysV kc) a) (kth (keysV kc) b) = true) ∧
      e = .returned (.agg #[.int .i64 no, .slice (some ⟨gk', 0, none⟩) js.length ck, .slice (some ⟨gv', 0, none⟩) js.length cv]) ∧ w'.ownsRow w.heap.size 39 3 (.slice (some ⟨gk', 0, none⟩) js.length ck) js.length (js.flatMap fun j => encV (kc.getD j default)) ∧
      w'.ownsRow w.heap.size 39 3 (.slice (some ⟨gv', 0, none⟩) js.length cv) js.length (js.flatMap fun j => encV (vc.getD j default)) ∧ gk' ≠ gv' ∧ Below w.heap.size w w'
set_option maxHeartbeats 4000000 in
theorem typed_entries (no : Int) (gk gv capk capv : Nat) (kc vc : List VC) (h0 : 0 < kc.length) (hl : kc.length = vc.length) (hL : kc.length ≤ 1048576) (hf : ∀ k ∈ keysV kc, keyFit k) (w : World) (hk : VRow w gk kc) (hv : VRow w gv vc) :
    Calls Tryz.prog 56 #[.agg #[.int .i64 no, .slice (some ⟨gk, 0, none⟩) kc.length capk, .slice (some ⟨gv, 0, none⟩) kc.length capv]] w fun e w' => EntPost w no kc vc e w' := by
  have HL := Lib.hid hl
  clear hl
  have HK := Lib.hid hk
  have HV := Lib.hid hv
  have HF := Lib.hid hf
  clear hk hv hf
  have HKL := Lib.hid (show (keysV kc).length = kc.length by simp [keysV])
  have hmm := @run_makeMap Tryz.prog
  go_enter Tryz.func56, Tryz.ntmps56
  go_wp2_with fail
  have g0 := At3.new w 35 (.int .i64 no) (.slice (some ⟨gk, 0, none⟩) kc.length capk) (.slice (some ⟨gv, 0, none⟩) kc.length capv)
  have g1 := At3.new (w.alloc (.cells #[.int .i64 no, .slice (some ⟨gk, 0, none⟩) kc.length capk, .slice (some ⟨gv, 0, none⟩) kc.length capv] 35)) 35 (.int .i64 0) (.slice none 0 0) (.slice none 0 0)
  have B2 := al2 w (.cells #[.int .i64 no, .slice (some ⟨gk, 0, none⟩) kc.length capk, .slice (some ⟨gv, 0, none⟩) kc.length capv] 35) (.cells #[.int .i64 0, .slice none 0 0, .slice none 0 0] 35)
  have g0' := g0.below (al1 _ (.cells #[.int .i64 0, .slice none 0 0, .slice none 0 0] 35))
  have hz2 : ((w.alloc (.cells #[.int .i64 no, .slice (some ⟨gk, 0, none⟩) kc.length capk, .slice (some ⟨gv, 0, none⟩) kc.length capv] 35)).alloc (.cells #[.int .i64 0, .slice none 0 0, .slice none 0 0] 35)).heap.size = w.heap.size + 1 + 1 := by simp
  rw [show (w.alloc (.cells #[.int .i64 no, .slice (some ⟨gk, 0, none⟩) kc.length capk, .slice (some ⟨gv, 0, none⟩) kc.length capv] 35)).heap.size = w.heap.size + 1 by simp] at g1
  clear g0
  generalize (w.alloc (.cells #[.int .i64 no, .slice (some ⟨gk, 0, none⟩) kc.length capk, .slice (some ⟨gv, 0, none⟩) kc.length capv] 35)).alloc (.cells #[.int .i64 0, .slice none 0 0, .slice none 0 0] 35) = w2 at *
  have KM := Lib.hid (KeyMap.new (keysV kc) w2)
  have G0 := Lib.hid (g0'.below (al1 _ (.map #[] 0)))
  have G1 := Lib.hid (g1.below (al1 _ (.map #[] 0)))
  have HB := Lib.hid (B2.nx (al1 _ (.map #[] 0)))
  rw [hz2] at KM
  clear g0' g1 B2 hz2
  generalize w2.alloc (.map #[] 0) = w3 at *
  clear w2
  go_loopw [16] (fun iv wr => ∃ k : Nat, k ≤ kc.length ∧ iv = .int .i64 k ∧ Hid (KeyMap (w.heap.size + 1 + 1) k (keysV kc) k wr) ∧ Hid (At3 wr w.heap.size 35 (.int .i64 no) (.slice (some ⟨gk, 0, none⟩) kc.length capk) (.slice (some ⟨gv, 0, none⟩) kc.length capv)) ∧ Hid (At3 wr (w.heap.size + 1) 35 (.int .i64 0) (.slice none 0 0) (.slice none 0 0)) ∧ Hid (Below w.heap.size w wr)) (fun iv _ => kc.length - (intOf iv).toNat)
  case atStart => exact ⟨0, by omega, rfl, KM, G0, G1, HB⟩
  case round =>
    clear KM G0 G1 HB
    obtain ⟨k, hk, rfl, KM, G0, G1, HB⟩ := hrel
    obtain ⟨wA, rfl⟩ : ∃ wA, wA = wr := ⟨_, rfl⟩
    by_cases hlt : k < kc.length
    · have ek : (keysV kc)[k]? = some (kc[k].1, kc[k].2.1) := by simp [keysV, hlt]
      have fk := HF.out _ (List.mem_of_getElem? ek)
      have EK := Lib.hid ek
      obtain ⟨m0, m1, m2⟩ := (HK.out.below HB.out) k hlt
      have bl := block_lt_of_cell m0
      generalize kc[k] = x at *
      have KM1 := (KM.out.below (al1 wA (.cells #[.int .i64 x.1, .string x.2.1, .slice x.2.2.1 x.2.2.2.1 x.2.2.2.2] 39)))
      obtain ⟨v1, hu, M1, u1⟩ := KM1.update (by unfold maxLen; omega) fk EK.out (WalkArith.wf_i64 (by omega))
      unfold keyV at hu
      have KM2 := Lib.hid M1
      have AL := al1 wA (.cells #[.int .i64 x.1, .string x.2.1, .slice x.2.2.1 x.2.2.2.1 x.2.2.2.2] 39)
      have G0' := Lib.hid ((G0.out.below AL).kept u1 (by simp; omega))
      have G1' := Lib.hid ((G1.out.below AL).kept u1 (by simp))
      have HB' := Lib.hid ((HB.out.nx AL).grown u1 (HB.out.nx AL).size fun q hq => by cases hq; omega)
      clear KM1 M1 KM AL u1
      go_wp2_with fail
      refine ⟨⟨k + 1, by omega, rfl, KM2, G0', G1', HB'⟩, ?_⟩
      simp only [intOf]; omega
    · obtain rfl : k = kc.length := by omega
      have KM2 := Lib.hid (HKL.out ▸ KM.out : KeyMap (w.heap.size + 1 + 1) kc.length (keysV kc) (keysV kc).length wA)
      clear hlt hk KM
      obtain ⟨D, hD, hKD⟩ := KM2.out
      go_wp2_with (first | (at_range; refine wpList_range_own _ rfl _ 114 rfl 116 3 lawKey Tryz.underlying114 _ (w.heap.size + 1 + 1) _ D rfl hD ?_; intro w5 hrg5 hg5 hs5) | fail)
      go_frame
      have HD := Lib.hid hKD
      have CO := Lib.hid (Coll.start HF.out (HKL.out ▸ hKD : KD (keysV kc) (keysV kc).length D))
      have RG := Lib.hid hrg5
      have S0 := Lib.hid (G0.out.kept hg5 (by simp))
      have S1 := Lib.hid (G1.out.kept hg5 (by simp))
      have SB := Lib.hid (HB.out.grown hg5 (by have := HB.out.size; omega) (by simp))
      have kmlt := KM2.out.lt
      have g1lt := G1.out.lt
      have hkd := Lib.hid (HKL.out ▸ hKD : KD (keysV kc) (keysV kc).length D)
      clear G0 G1 HB hD hKD hrg5 hg5 KM2 HD
      generalize wA.heap.size = r5 at *
      clear wA
      obtain ⟨i1, hi1, hzi, hsi, hbi⟩ := info_parts (P := Tryz.prog) (e := 3) (z := .int .i64 0) (size := 1) (bytes := 8) (by kernel_rfl)
      have z1 : (Value.int .i64 0).cells.size = 1 := rfl
      go_loopw [6] (fun v6 wr => ∃ (left : Lit → Bool) (cnt : Nat) (js : List Nat), Hid (wr.ranges Tryz.prog 116 (plainElem Tryz.prog 3) (w.heap.size + 1 + 1) r5 kc.length D left cnt) ∧ Hid (Coll (keysV kc) left js) ∧ (∃ a c, v6 = .slice a js.length c) ∧
        Hid (wr.ownsRow (r5 + 1) 3 1 v6 js.length (js.map fun (j : Nat) => .int .i64 (j : Int))) ∧ r5 < wr.heap.size ∧ Hid (At3 wr w.heap.size 35 (.int .i64 no) (.slice (some ⟨gk, 0, none⟩) kc.length capk) (.slice (some ⟨gv, 0, none⟩) kc.length capv)) ∧ Hid (At3 wr (w.heap.size + 1) 35 (.int .i64 0) (.slice none 0 0) (.slice none 0 0)) ∧ Hid (Below w.heap.size w wr)) (fun _ wr => wr.rangeLeft (w.heap.size + 1 + 1) r5)
      case atStart => exact ⟨_, _, [], RG, CO, ⟨none, 0, rfl⟩, Lib.hid (World.ownsRow_nil _ _ _ _), by omega, S0, S1, SB⟩
      case round =>
        clear RG CO S0 S1 SB
        obtain ⟨left, cnt, js, RG, CO, ⟨av, cv, rfl⟩, OW, hr5, S0, S1, SB⟩ := hrel
        obtain ⟨wB, rfl⟩ : ∃ wB, wB = wr := ⟨_, rfl⟩
        have hrg := RG.out
        go_wp2_with (first | (at_next; refine wpList_next_ranges _ rfl _ rfl 116 lawKey (plainElem Tryz.prog 3) keyV (Value.int .i64) (fun key kl h => by obtain ⟨k, h1, -⟩ := keyOf_inv h; exact ⟨k, h1⟩) (fun v y hv => by obtain ⟨c, h1, -⟩ := plainElem_int_inv Tryz.underlying3 hv; exact ⟨c, h1⟩) (w.heap.size + 1 + 1) r5 kc.length D left cnt rfl hrg ?_ ?_) | fail)
        · -- nothing is left
          intro hc0 hl0
          have LS := Lib.hid (CO.out.done hl0)
          have hjl := CO.out.len
          rw [HKL.out] at hjl
          clear CO
          have hjs : js ≠ [] := LS.out.ne (by rw [HKL.out]; exact h0)
          obtain ⟨g, rfl⟩ : ∃ g, av = some ⟨g, 0, none⟩ := by
            rcases OW.out.2 with ⟨h, hz⟩ | ⟨g, cap, cur, h, -⟩
            · exact absurd (List.eq_nil_of_length_eq_zero hz) hjs
            · injection h with h1 h2 h3; exact ⟨g, h1⟩
          have hgl := OW.out.lt g rfl
          obtain ⟨s0, s1, s2, s3⟩ := S0.out.cells
          have hkr := HK.out.below SB.out
          have HC := Lib.hid (sort_idx (r5 + 1) g cv w.heap.size gk capk (keysV kc) js (by rw [HKL.out]; exact h0) (by rw [HKL.out]; omega) (fun j hj => LS.out.lt hj) (by rw [HKL.out]; exact hjl) wB OW.out (by rw [HKL.out]; exact s1) (fun t ht => by
            have ht' : t < kc.length := by rw [HKL.out] at ht; exact ht
            obtain ⟨x0, x1, -⟩ := hkr t ht'
            simp only [keysV, List.getElem_map]
            exact ⟨x0, x1⟩) (by omega) (by
            have hk0 : gk < w.heap.size := block_lt_of_cell (HK.out 0 h0).1
            omega))
          have T0c := s0
          clear s0 s1 s2 s3 hkr hjs RG hrg
          go_wp2_with (first | (go_at_call 92; (with_reducible refine HC.out.mono ?_); rintro e w6 ⟨rfl, js', hp, hpw, how, hg6⟩; (have V0 := Lib.hid (S0.out.kept hg6 (by simp; omega))); (have V1 := Lib.hid (S1.out.kept hg6 (by simp; omega))); (have VB := Lib.hid (SB.out.grown hg6 SB.out.size (fun q hq => by cases hq; omega))); (have OW6 := Lib.hid how); (have HP := Lib.hid hp); (have HPW := Lib.hid hpw); (have q0 := V0.out.cells.1); (have z6 := hg6.size); (have l0 := V0.out.lt); clear hp hpw how hg6) | fail)
          have hpl : js'.length = js.length := HP.out.length_eq
          have E0 := Lib.hid (show E3 w6 no (w6.alloc (.cells #[.int .i64 no, .slice none 0 0, .slice none 0 0] 35)) (.slice none 0 0) (.slice none 0 0) (.slice none 0 0) 0 [] (.slice none 0 0) 0 [] from ⟨World.ownsRow_nil _ _ _ _, World.ownsRow_nil _ _ _ _, (fun q hq => by simp [Value.ownBlock] at hq), At3.new w6 _ _ _ _, al1 _ _⟩)
          go_loopw [47] (fun iv wr => ∃ (i : Nat) (vk vv : Value), i ≤ js.length ∧ iv = .int .i64 i ∧ Hid (E3 w6 no wr vk vv vk i ((js'.take i).flatMap fun j => encV (kc.getD j default)) vv i ((js'.take i).flatMap fun j => encV (vc.getD j default)))) (fun iv _ => js.length - (intOf iv).toNat)
          case atStart => exact ⟨0, _, _, Nat.zero_le _, rfl, E0⟩
          case round =>
            clear E0
            obtain ⟨i, vk, vv, hi, rfl, EE⟩ := hrel
            obtain ⟨wA, rfl⟩ : ∃ wA, wA = wr := ⟨_, rfl⟩
            by_cases hlt : i < js.length
            · obtain ⟨ak, ck, rfl⟩ := owns_slice EE.out.1
              obtain ⟨av2, cv2, rfl⟩ := owns_slice EE.out.2.1
              have HBA := Lib.hid EE.out.2.2.2.2
              have ei : js'[i]? = some js'[i] := List.getElem?_eq_getElem (by omega)
              have hjk : js'[i] < kc.length := by
                have := LS.out.lt (HP.out.mem_iff.1 (List.getElem_mem (show i < js'.length by omega)))
                rwa [HKL.out] at this
              have HT := Lib.hid (List.take_succ_eq_append_getElem (show i < js'.length by omega))
              have q1 : wA.cell? ⟨g, i, none⟩ = some (.int .i64 (js'[i] : Int)) := by
                have h1 : w6.cell? ⟨g, i, none⟩ = some (.int .i64 (js'[i] : Int)) := by
                  rw [OW6.out.cellAt i (by omega), List.getElem?_map, ei]; rfl
                exact (HBA.out.cell (block_lt_of_cell h1)).trans h1
              generalize js'[i] = j at *
              have HKJ := Lib.hid ((HK.out.below VB.out).at_ hjk)
              have HVJ := Lib.hid ((HV.out.below VB.out).at_ (show j < vc.length by rw [← HL.out]; exact hjk))
              obtain ⟨k0, k1, k2⟩ := HKJ.out.below HBA.out
              obtain ⟨v0, v1, v2⟩ := HVJ.out.below HBA.out
              have hjk' : j < vc.length := by rw [← HL.out]; exact hjk
              have ekc : kc.getD j default = kc[j] := by simp [hjk]
              have evc : vc.getD j default = vc[j] := by simp [hjk']
              have EKC := Lib.hid ekc
              have EVC := Lib.hid evc
              clear ekc evc ei
              generalize kc[j] = xk at *
              generalize vc[j] = xv at *
              obtain ⟨x1, x2, x3, x4⟩ := (V0.out.below HBA.out).cells
              obtain ⟨y1, y2, y3, y4⟩ := EE.out.2.2.2.1.cells
              have lq := block_lt_of_cell q1
              have lx := block_lt_of_cell x2
              have ly := block_lt_of_cell y2
              have lk := block_lt_of_cell k0
              have lv := block_lt_of_cell v0
              clear x1 x4 y1 l0 q0 T0c
              obtain ⟨i3, hi3, hz3, hs3, hb3⟩ := info_parts (P := Tryz.prog) (e := 39) (z := .agg #[.int .i64 0, .string "".toUTF8, .slice none 0 0]) (size := 3) (bytes := 48) (by kernel_rfl)
              have z3 : (Value.agg #[.int .i64 0, .string "".toUTF8, .slice none 0 0]).cells.size = 3 := rfl
              have OCk := Lib.hid (show ∀ u ∈ encV xk, u.oneCell' = true from fun u hu => by simp [encV] at hu; rcases hu with rfl | rfl | rfl <;> rfl)
              have OCv := Lib.hid (show ∀ u ∈ encV xv, u.oneCell' = true from fun u hu => by simp [encV] at hu; rcases hu with rfl | rfl | rfl <;> rfl)
              have bk6 : gk < w6.heap.size := block_lt_of_cell HKJ.out.1
              have bv6 : gv < w6.heap.size := block_lt_of_cell HVJ.out.1
              have bw6 : w.heap.size < w6.heap.size := V0.out.lt
              have bA : w6.heap.size + 1 ≤ wA.heap.size := EE.out.2.2.2.1.lt
              have F1 := Lib.hid ((EE.out.alloc (.cells #[.int .i64 xk.1, .string xk.2.1, .slice xk.2.2.1 xk.2.2.2.1 xk.2.2.2.2] 39)).drew)
              have F2 := Lib.hid (((EE.out.alloc (.cells #[.int .i64 xv.1, .string xv.2.1, .slice xv.2.2.1 xv.2.2.2.1 xv.2.2.2.2] 39)).alloc (.cells #[.int .i64 xk.1, .string xk.2.1, .slice xk.2.2.1 xk.2.2.2.1 xk.2.2.2.2] 39)).drew)
              have F3 := Lib.hid (((EE.out.alloc (.cells #[.int .i64 xk.1, .string xk.2.1, .slice xk.2.2.1 xk.2.2.2.1 xk.2.2.2.2] 39)).alloc (.cells #[.int .i64 xv.1, .string xv.2.1, .slice xv.2.2.1 xv.2.2.2.1 xv.2.2.2.2] 39)).drew)
              have N1 := Lib.hid (show ∀ (t : Nat) (u : Value), (encV xk)[t]? = some u → (wA.alloc (.cells #[.int .i64 xk.1, .string xk.2.1, .slice xk.2.2.1 xk.2.2.2.1 xk.2.2.2.2] 39)).drew.cell? ((⟨wA.heap.size, 0, none⟩ : Addr).add t) = some u from World.news_of_block (heap_alloc_new wA (.cells #[.int .i64 xk.1, .string xk.2.1, .slice xk.2.2.1 xk.2.2.2.1 xk.2.2.2.2] 39)))
              have N2 := Lib.hid (show ∀ (t : Nat) (u : Value), (encV xk)[t]? = some u → ((wA.alloc (.cells #[.int .i64 xv.1, .string xv.2.1, .slice xv.2.2.1 xv.2.2.2.1 xv.2.2.2.2] 39)).alloc (.cells #[.int .i64 xk.1, .string xk.2.1, .slice xk.2.2.1 xk.2.2.2.1 xk.2.2.2.2] 39)).drew.cell? ((⟨wA.heap.size + 1, 0, none⟩ : Addr).add t) = some u from World.news_of_block (by rw [show wA.heap.size + 1 = (wA.alloc (.cells #[.int .i64 xv.1, .string xv.2.1, .slice xv.2.2.1 xv.2.2.2.1 xv.2.2.2.2] 39)).heap.size by simp]; exact heap_alloc_new (wA.alloc (.cells #[.int .i64 xv.1, .string xv.2.1, .slice xv.2.2.1 xv.2.2.2.1 xv.2.2.2.2] 39)) (.cells #[.int .i64 xk.1, .string xk.2.1, .slice xk.2.2.1 xk.2.2.2.1 xk.2.2.2.2] 39)))
              have N3 := Lib.hid (show ∀ (t : Nat) (u : Value), (encV xk)[t]? = some u → ((wA.alloc (.cells #[.int .i64 xk.1, .string xk.2.1, .slice xk.2.2.1 xk.2.2.2.1 xk.2.2.2.2] 39)).alloc (.cells #[.int .i64 xv.1, .string xv.2.1, .slice xv.2.2.1 xv.2.2.2.1 xv.2.2.2.2] 39)).drew.cell? ((⟨wA.heap.size, 0, none⟩ : Addr).add t) = some u from World.news_of_block (((al1 (wA.alloc (.cells #[.int .i64 xk.1, .string xk.2.1, .slice xk.2.2.1 xk.2.2.2.1 xk.2.2.2.2] 39)) (.cells #[.int .i64 xv.1, .string xv.2.1, .slice xv.2.2.1 xv.2.2.2.1 xv.2.2.2.2] 39)).block wA.heap.size (by simp)).trans (heap_alloc_new wA (.cells #[.int .i64 xk.1, .string xk.2.1, .slice xk.2.2.1 xk.2.2.2.1 xk.2.2.2.2] 39))))
              have V2 := Lib.hid (show (((wA.alloc (.cells #[.int .i64 xv.1, .string xv.2.1, .slice xv.2.2.1 xv.2.2.2.1 xv.2.2.2.2] 39)).alloc (.cells #[.int .i64 xk.1, .string xk.2.1, .slice xk.2.2.1 xk.2.2.2.1 xk.2.2.2.2] 39)).drew).heap[wA.heap.size]? = some (.cells #[.int .i64 xv.1, .string xv.2.1, .slice xv.2.2.1 xv.2.2.2.1 xv.2.2.2.2] 39) from ((al1 (wA.alloc (.cells #[.int .i64 xv.1, .string xv.2.1, .slice xv.2.2.1 xv.2.2.2.1 xv.2.2.2.2] 39)) (.cells #[.int .i64 xk.1, .string xk.2.1, .slice xk.2.2.1 xk.2.2.2.1 xk.2.2.2.2] 39)).block wA.heap.size (by simp)).trans (heap_alloc_new wA (.cells #[.int .i64 xv.1, .string xv.2.1, .slice xv.2.2.1 xv.2.2.2.1 xv.2.2.2.2] 39)))
              have V3 := Lib.hid (show (((wA.alloc (.cells #[.int .i64 xk.1, .string xk.2.1, .slice xk.2.2.1 xk.2.2.2.1 xk.2.2.2.2] 39)).alloc (.cells #[.int .i64 xv.1, .string xv.2.1, .slice xv.2.2.1 xv.2.2.2.1 xv.2.2.2.2] 39)).drew).heap[wA.heap.size + 1]? = some (.cells #[.int .i64 xv.1, .string xv.2.1, .slice xv.2.2.1 xv.2.2.2.1 xv.2.2.2.2] 39) from by rw [show wA.heap.size + 1 = (wA.alloc (.cells #[.int .i64 xk.1, .string xk.2.1, .slice xk.2.2.1 xk.2.2.2.1 xk.2.2.2.2] 39)).heap.size by simp]; exact heap_alloc_new (wA.alloc (.cells #[.int .i64 xk.1, .string xk.2.1, .slice xk.2.2.1 xk.2.2.2.1 xk.2.2.2.2] 39)) (.cells #[.int .i64 xv.1, .string xv.2.1, .slice xv.2.2.1 xv.2.2.2.1 xv.2.2.2.2] 39))
              have B1 := Lib.hid (show w6.heap.size + 1 ≤ (wA.alloc (.cells #[.int .i64 xk.1, .string xk.2.1, .slice xk.2.2.1 xk.2.2.2.1 xk.2.2.2.2] 39)).drew.heap.size by simp; omega)
              have B2 := Lib.hid (show w6.heap.size + 1 ≤ ((wA.alloc (.cells #[.int .i64 xv.1, .string xv.2.1, .slice xv.2.2.1 xv.2.2.2.1 xv.2.2.2.2] 39)).alloc (.cells #[.int .i64 xk.1, .string xk.2.1, .slice xk.2.2.1 xk.2.2.2.1 xk.2.2.2.2] 39)).drew.heap.size by simp; omega)
              have B3 := Lib.hid (show w6.heap.size + 1 ≤ ((wA.alloc (.cells #[.int .i64 xk.1, .string xk.2.1, .slice xk.2.2.1 xk.2.2.2.1 xk.2.2.2.2] 39)).alloc (.cells #[.int .i64 xv.1, .string xv.2.1, .slice xv.2.2.1 xv.2.2.2.1 xv.2.2.2.2] 39)).drew.heap.size by simp; omega)
              have NE := Lib.hid (show ∀ q, wA.heap.size ≤ q → some q ≠ (Value.slice ak i ck).ownBlock from fun q hq e => by have := (EE.out.1.lt q e.symm).2; omega)
              have HSS := Lib.hid (show ∀ wX, Below w6.heap.size w6 wX → (fun w' => w'.cell? ⟨w.heap.size, 1, none⟩ = some (.slice (some ⟨gk, 0, none⟩) kc.length capk) ∧ w'.cell? ⟨w.heap.size, 2, none⟩ = some (.slice (some ⟨gv, 0, none⟩) kc.length capv) ∧ w'.cell? ⟨gk, j * 3, none⟩ = some (.int .i64 xk.1) ∧ w'.cell? ⟨gk, j * 3 + 1, none⟩ = some (.string xk.2.1) ∧ w'.cell? ⟨gk, j * 3 + 2, none⟩ = some (.slice xk.2.2.1 xk.2.2.2.1 xk.2.2.2.2) ∧ w'.cell? ⟨gv, j * 3, none⟩ = some (.int .i64 xv.1) ∧ w'.cell? ⟨gv, j * 3 + 1, none⟩ = some (.string xv.2.1) ∧ w'.cell? ⟨gv, j * 3 + 2, none⟩ = some (.slice xv.2.2.1 xv.2.2.2.1 xv.2.2.2.2)) wX from fun wX h2 => by
                obtain ⟨-, d1, d2, -⟩ := (V0.out.below h2).cells
                obtain ⟨k0, k1, k2⟩ := (HKJ.out.below h2)
                obtain ⟨v0, v1, v2⟩ := (HVJ.out.below h2)
                exact ⟨d1, d2, k0, k1, k2, v0, v1, v2⟩)
              have hs0 := HSS.out _ HBA.out
              have HTK := Lib.hid (show (js'.take (i + 1)).flatMap (fun j => encV (kc.getD j default)) = (js'.take i).flatMap (fun j => encV (kc.getD j default)) ++ encV xk by rw [HT.out, List.flatMap_append, ← EKC.out]; simp)
              have HTV := Lib.hid (show (js'.take (i + 1)).flatMap (fun j => encV (vc.getD j default)) = (js'.take i).flatMap (fun j => encV (vc.getD j default)) ++ encV xv by rw [HT.out, List.flatMap_append, ← EVC.out]; simp)
              clear x2 x3 k0 k1 k2 v0 v1 v2
              go_upto_region 17 with fail
              have hk : wA.drew.cell? ⟨w.heap.size, 1, none⟩ = _ ∧ _ := hs0
              rw [keepOp_load 52 51, keepOp_load 61 60]
              go_region_held3 (fun w' => w'.cell? ⟨w.heap.size, 1, none⟩ = some (.slice (some ⟨gk, 0, none⟩) kc.length capk) ∧ w'.cell? ⟨w.heap.size, 2, none⟩ = some (.slice (some ⟨gv, 0, none⟩) kc.length capv) ∧ w'.cell? ⟨gk, j * 3, none⟩ = some (.int .i64 xk.1) ∧ w'.cell? ⟨gk, j * 3 + 1, none⟩ = some (.string xk.2.1) ∧ w'.cell? ⟨gk, j * 3 + 2, none⟩ = some (.slice xk.2.2.1 xk.2.2.2.1 xk.2.2.2.2) ∧ w'.cell? ⟨gv, j * 3, none⟩ = some (.int .i64 xv.1) ∧ w'.cell? ⟨gv, j * 3 + 1, none⟩ = some (.string xv.2.1) ∧ w'.cell? ⟨gv, j * 3 + 2, none⟩ = some (.slice xv.2.2.1 xv.2.2.2.1 xv.2.2.2.2))
                (first | exact hk | ((with_reducible refine keep8e ?_ ?_ hk) <;> omega) | ((with_reducible refine keep8e ?_ ?_ (keep8e ?_ ?_ hk)) <;> omega) | (go_keep; done))
                (first
                  | ((refine step_append_lies _ rfl (.tmp 52) (.tmp 58) 33 rfl (w6.heap.size + 1) 39 i3 _ 3 48 Tryz.underlying33 hi3 hz3 hs3 hb3 z3 (by omega) (.slice ak i ck) i _ (by simp [Act.eval, Act.put]) F1.out.1 ⟨wA.heap.size, 0, none⟩ 1 1 (encV xk) (by simp [Act.eval, Act.put]) rfl N1.out OCk.out (by omega) (by unfold maxLen; omega) (by omega) B1.out _ rfl ?_); (rintro g9 cap9 w9 ho9 hg9 hl9 hlt9); (have F9 := Lib.hid (F1.out.appK ho9 hg9 hl9)); (clear hk); (have hk := HSS.out _ F9.out.2.2.2.2); (have y39 := F9.out.2.2.2.1.cells.2.2.1); (have l9 := F9.out.2.2.2.1.lt); (have TG := Lib.hid (show 1 = 1 from rfl)); (have Z9 := Lib.hid (Nat.le_trans B1.out hg9.size)); clear ho9 hg9 hl9)
                  | ((refine step_append_lies _ rfl (.tmp 52) (.tmp 58) 33 rfl (w6.heap.size + 1) 39 i3 _ 3 48 Tryz.underlying33 hi3 hz3 hs3 hb3 z3 (by omega) (.slice ak i ck) i _ (by simp [Act.eval, Act.put]) F2.out.1 ⟨wA.heap.size + 1, 0, none⟩ 1 1 (encV xk) (by simp [Act.eval, Act.put]) rfl N2.out OCk.out (by omega) (by unfold maxLen; omega) (by omega) B2.out _ rfl ?_); (rintro g9 cap9 w9 ho9 hg9 hl9 hlt9); (have F9 := Lib.hid (F2.out.appK ho9 hg9 hl9)); (clear hk); (have hk := HSS.out _ F9.out.2.2.2.2); (have y39 := F9.out.2.2.2.1.cells.2.2.1); (have l9 := F9.out.2.2.2.1.lt); (have TG := Lib.hid (show 2 = 2 from rfl)); (have NV9 := Lib.hid (World.news_of_block ((hg9.block wA.heap.size (lt_blkE V2.out) (NE.out _ (Nat.le_refl _))).trans V2.out))); (have Z9 := Lib.hid (Nat.le_trans B2.out hg9.size)); clear ho9 hg9 hl9)
                  | ((refine step_append_lies _ rfl (.tmp 52) (.tmp 58) 33 rfl (w6.heap.size + 1) 39 i3 _ 3 48 Tryz.underlying33 hi3 hz3 hs3 hb3 z3 (by omega) (.slice ak i ck) i _ (by simp [Act.eval, Act.put]) F3.out.1 ⟨wA.heap.size, 0, none⟩ 1 1 (encV xk) (by simp [Act.eval, Act.put]) rfl N3.out OCk.out (by omega) (by unfold maxLen; omega) (by omega) B3.out _ rfl ?_); (rintro g9 cap9 w9 ho9 hg9 hl9 hlt9); (have F9 := Lib.hid (F3.out.appK ho9 hg9 hl9)); (clear hk); (have hk := HSS.out _ F9.out.2.2.2.2); (have y39 := F9.out.2.2.2.1.cells.2.2.1); (have l9 := F9.out.2.2.2.1.lt); (have TG := Lib.hid (show 3 = 3 from rfl)); (have NV9 := Lib.hid (World.news_of_block ((hg9.block (wA.heap.size + 1) (lt_blkE V3.out) (NE.out _ (Nat.le_succ _))).trans V3.out))); (have Z9 := Lib.hid (Nat.le_trans B3.out hg9.size)); clear ho9 hg9 hl9)
                  | ((guard_hyp TG : Hid (1 = 1)); (refine step_append_lies _ rfl (.tmp 61) (.tmp 67) 33 rfl (w6.heap.size + 1) 39 i3 _ 3 48 Tryz.underlying33 hi3 hz3 hs3 hb3 z3 (by omega) (.slice av2 i cv2) i _ (by simp [Act.eval, Act.put]) (F9.out.alloc (.cells #[.int .i64 xv.1, .string xv.2.1, .slice xv.2.2.1 xv.2.2.2.1 xv.2.2.2.2] 39)).2.1 ⟨w9.heap.size, 0, none⟩ 1 1 (encV xv) (by simp [Act.eval, Act.put]) rfl (World.news_of_block (heap_alloc_new w9 (.cells #[.int .i64 xv.1, .string xv.2.1, .slice xv.2.2.1 xv.2.2.2.1 xv.2.2.2.2] 39))) OCv.out (by omega) (by unfold maxLen; omega) (by omega) (Nat.le_trans Z9.out (al1 w9 (.cells #[.int .i64 xv.1, .string xv.2.1, .slice xv.2.2.1 xv.2.2.2.1 xv.2.2.2.2] 39)).size) _ rfl ?_); (rintro g10 cap10 w10 ho10 hg10 hl10 hlt10); (have F10 := Lib.hid ((F9.out.alloc (.cells #[.int .i64 xv.1, .string xv.2.1, .slice xv.2.2.1 xv.2.2.2.1 xv.2.2.2.2] 39)).appV ho10 hg10 hl10)); (clear hk); (have hk := HSS.out _ F10.out.2.2.2.2); (have c101 := F10.out.2.2.2.1.cells.2.1); (have c102 := F10.out.2.2.2.1.cells.2.2.1); (have fr1 := F10.out.2.2.2.1.cells.2.2.2 1); (have fr2 := F10.out.2.2.2.1.cells.2.2.2 2); (have lt10 := F10.out.2.2.2.1.lt); clear ho10 hg10 hl10)
                  | ((guard_hyp TG : Hid (2 = 2)); (refine step_append_lies _ rfl (.tmp 61) (.tmp 67) 33 rfl (w6.heap.size + 1) 39 i3 _ 3 48 Tryz.underlying33 hi3 hz3 hs3 hb3 z3 (by omega) (.slice av2 i cv2) i _ (by simp [Act.eval, Act.put]) F9.out.2.1 ⟨wA.heap.size, 0, none⟩ 1 1 (encV xv) (by simp [Act.eval, Act.put]) rfl NV9.out OCv.out (by omega) (by unfold maxLen; omega) (by omega) Z9.out _ rfl ?_); (rintro g10 cap10 w10 ho10 hg10 hl10 hlt10); (have F10 := Lib.hid (F9.out.appV ho10 hg10 hl10)); (clear hk); (have hk := HSS.out _ F10.out.2.2.2.2); (have c101 := F10.out.2.2.2.1.cells.2.1); (have c102 := F10.out.2.2.2.1.cells.2.2.1); (have fr1 := F10.out.2.2.2.1.cells.2.2.2 1); (have fr2 := F10.out.2.2.2.1.cells.2.2.2 2); (have lt10 := F10.out.2.2.2.1.lt); clear ho10 hg10 hl10)
                  | ((guard_hyp TG : Hid (3 = 3)); (refine step_append_lies _ rfl (.tmp 61) (.tmp 67) 33 rfl (w6.heap.size + 1) 39 i3 _ 3 48 Tryz.underlying33 hi3 hz3 hs3 hb3 z3 (by omega) (.slice av2 i cv2) i _ (by simp [Act.eval, Act.put]) F9.out.2.1 ⟨wA.heap.size + 1, 0, none⟩ 1 1 (encV xv) (by simp [Act.eval, Act.put]) rfl NV9.out OCv.out (by omega) (by unfold maxLen; omega) (by omega) Z9.out _ rfl ?_); (rintro g10 cap10 w10 ho10 hg10 hl10 hlt10); (have F10 := Lib.hid (F9.out.appV ho10 hg10 hl10)); (clear hk); (have hk := HSS.out _ F10.out.2.2.2.2); (have c101 := F10.out.2.2.2.1.cells.2.1); (have c102 := F10.out.2.2.2.1.cells.2.2.1); (have fr1 := F10.out.2.2.2.1.cells.2.2.2 1); (have fr2 := F10.out.2.2.2.1.cells.2.2.2 2); (have lt10 := F10.out.2.2.2.1.lt); clear ho10 hg10 hl10))
              all_goals (
                go_wp2_with fail
                refine ⟨⟨i + 1, .slice (some ⟨g9, 0, none⟩) (i + 1) cap9, .slice (some ⟨g10, 0, none⟩) (i + 1) cap10, by omega, by simp, Lib.hid (by rw [HTK.out, HTV.out]; exact (F10.out.setK _).setV _)⟩, ?_⟩
                simp only [intOf]; omega)
            · obtain rfl : i = js.length := by omega
              have ee := EE.out
              rw [← hpl, List.take_length, hpl] at ee
              have hne : js.length ≠ 0 := fun h => LS.out.ne (by rw [HKL.out]; exact h0) (List.eq_nil_of_length_eq_zero h)
              obtain ⟨g9, c9, rfl⟩ := owns_some ee.1 hne
              obtain ⟨g10, c10, rfl⟩ := owns_some ee.2.1 hne
              have HE := Lib.hid ee
              obtain ⟨y1, y2, y3, y4⟩ := ee.2.2.2.1.cells
              have ly := block_lt_of_cell y1
              obtain ⟨x1, x2, x3, x4⟩ := (V1.out.below ee.2.2.2.2).cells
              have lx := block_lt_of_cell x1
              have hgg : g9 ≠ g10 := fun e => ee.2.2.1 g9 rfl (by rw [e]; rfl)
              have HBE := Lib.hid ee.2.2.2.2
              have bw6 : w.heap.size + 1 < w6.heap.size := V1.out.lt
              have f0 := x4 0
              have f1 := x4 1
              have f2 := x4 2
              clear ee EE T0c q0
              go_wp2_with fail
              have ht : wA.there (w.heap.size + 1) 0 3 := fun q hq => ⟨by match q, hq with
                | 0, _ => rw [x1]; rfl
                | 1, _ => rw [x2]; rfl
                | 2, _ => rw [x3]; rfl, x4 _⟩
              have own : ∀ {v : Value} {n : Nat} {ys : List Value}, wA.ownsRow (w6.heap.size + 1) 39 3 v n ys → (((wA.setCell ⟨w.heap.size + 1, 0, none⟩ (.int .i64 no)).setCell ⟨w.heap.size + 1, 1, none⟩ (.slice (some ⟨g9, 0, none⟩) js.length c9)).setCell ⟨w.heap.size + 1, 2, none⟩ (.slice (some ⟨g10, 0, none⟩) js.length c10)).ownsRow w.heap.size 39 3 v n ys :=
                fun h => owns_lower (owns_set (owns_set (owns_set h (by simp; omega) _) (by simp; omega) _) (by simp; omega) _) (by omega)
              exact bodyPost_ret (v := .agg #[.int .i64 no, .slice (some ⟨g9, 0, none⟩) js.length c9, .slice (some ⟨g10, 0, none⟩) js.length c10]) (results_cell_mid rfl _ _ (w.heap.size + 1) 0 [_, _, _] _ rfl (rangeAt_set3 _ _ 0 _ _ _ ht) Tryz.underlying35 rfl (by kernel_rfl)) rfl
                (show EntPost w no kc vc _ _ from ⟨js', g9, c9, g10, c10, LS.out.perm HP.out, (LS.out.perm HP.out).strict HPW.out, by rw [hpl], by rw [hpl]; exact own HE.out.1, by rw [hpl]; exact own HE.out.2.1, hgg, (((VB.out.nx HBE.out).setCell (by simp) _).setCell (by simp) _).setCell (by simp) _⟩)
        · -- one more
          intro x0 x1 c kl y0 y1 w1 cnt1 hkey hlk hy hat hrg1 hlt hg1 hs1 hen
          obtain ⟨kk, hkk, hfit⟩ := keyOf_inv hkey
          obtain rfl := keyV_inj hkk
          have hkl' := keyL_eq hfit
          rw [hkey] at hkl'
          obtain rfl : kl = keyL (x0, x1) := by injection hkl'
          obtain ⟨c', hc', hyc, hwc⟩ := plainElem_int_inv Tryz.underlying3 hy
          obtain rfl : c = c' := by injection hc'
          obtain ⟨j, rfl, hj, hco⟩ := CO.out.step HF.out hkd.out hfit hlk (fun zd => by have := hat zd; rw [this]; exact congrArg Prod.fst hyc)
          have CO1 := Lib.hid hco
          have RG1 := Lib.hid hrg1
          have hlen := hco.len
          rw [List.length_append, HKL.out] at hlen
          simp only [List.length_cons, List.length_nil] at hlen
          have T0 := Lib.hid (S0.out.kept hg1 (by simp; omega))
          have T1 := Lib.hid (S1.out.kept hg1 (by simp; omega))
          have TB := Lib.hid (SB.out.grown hg1 (by omega) (fun q hq => by cases hq; omega))
          have OW1 := Lib.hid ((OW.out.kept hg1 (by cases hv : (Value.slice av js.length cv).ownBlock with | none => exact .inl rfl | some q => exact .inr (by have := OW.out.lt q hv; simp; omega))).alloc (.cells #[.int .i64 (j : Int)] 3))
          have RGL := Lib.hid (show cnt1 < wB.rangeLeft (w.heap.size + 1 + 1) r5 by rw [hrg.left_eq]; exact hlt)
          have hr1 : r5 < w1.heap.size := by omega
          clear hs1
          clear hco hrg1 hg1 hkey hkk hkl' hyc hy hat hlk CO RG hrg hlt S0 S1 SB OW
          go_wp2_with (first | (at_builtin; go_loud (refine wpList_append_lies _ rfl _ _ 117 rfl (r5 + 1) 3 i1 _ 1 8 Tryz.underlying117 hi1 hzi hsi hbi z1 (by omega) (.slice av js.length cv) js.length _ rfl OW1.out ⟨w1.heap.size, 0, none⟩ 1 1 [.int .i64 (j : Int)] rfl rfl (World.news_of_block (heap_alloc_new w1 (.cells #[.int .i64 (j : Int)] 3))) (by simp [Value.oneCell']) (by omega) (by unfold maxLen; omega) (by omega) (by simp; omega) _ rfl ?_); rintro g cap w9 ho9 hg9 hl9 hlt9))
          have AL := al1 w1 (.cells #[.int .i64 (j : Int)] 3)
          have base9 : ∀ k, (Value.slice av js.length cv).ownBlock = some k → r5 + 1 ≤ k := fun k hk => (OW1.out.lt k hk).1
          have ne9 : ∀ b, b ≤ r5 → some b ≠ (Value.slice av js.length cv).ownBlock := fun b hb e => by have := base9 b e.symm; omega
          have z9 := hg9.size
          have U0 := Lib.hid ((T0.out.below AL).kept hg9 (ne9 _ (by omega)))
          have U1 := Lib.hid ((T1.out.below AL).kept hg9 (ne9 _ (by omega)))
          have UB := Lib.hid ((TB.out.nx AL).grown hg9 (TB.out.nx AL).size fun q hq => by have := base9 q hq; omega)
          have RG9 := Lib.hid ((RG1.out.alloc (.cells #[.int .i64 (j : Int)] 3)).kept hg9 (ne9 _ (by omega)) (ne9 _ (by omega)))
          refine ⟨⟨_, _, js ++ [j], RG9, CO1, ⟨some ⟨g, 0, none⟩, cap, by simp⟩, Lib.hid (by simpa using ho9), by have := AL.size; omega, U0, U1, UB⟩, ?_⟩
          rw [RG9.out.left_eq]
          exact RGL.out
end Go.Proofs.YthikfifoomfjgaaGreat
