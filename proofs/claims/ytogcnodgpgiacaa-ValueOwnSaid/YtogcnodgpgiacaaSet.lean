/- Contract of value.Set. -/
import Derived.Test.YtogcnodgpgiacaaAll
import Derived.Test.YtogcnodgpgiacaaIns
import Derived.Test.YtogcnodgpgiacaaGet
import Derived.Deep.RegionWith
namespace Go.Proofs.Ytogcnodgpgiacaa
open Go.RowKit Go.Tr
set_option linter.unusedVariables false
set_option linter.unusedSimpArgs false
def IntCell (t : Cell3) : Prop := ∃ n : Int, t.1 = .int .i64 n ∧ -9223372036854775808 ≤ n ∧ n ≤ 9223372036854775807
def noC (t : Cell3) : Int := match t.1 with
  | .int _ n => n
  | _ => 0
theorem set_1 (b : Nat) (no : Int) (w : World) (cs : List Value) (x : Cell3) (hok : IntAt b no w) (hx : R3 cs x ∧ IntCell x) :
    Calls Try.prog 29 (#[.agg cs.toArray] ++ #[.pointer (some ⟨b, 0, none⟩)]) w fun e w' => e = .returned (.bool (decide (noC x = no))) ∧ Below w.heap.size w w' := by
  obtain ⟨⟨rfl, -⟩, n, h1, h2, h3⟩ := hx
  obtain ⟨c, d, e⟩ := x
  simp only at h1
  subst h1
  have hc := hok
  unfold IntAt at hc
  have bl := block_lt_of_cell hc
  clear hok
  show Calls Try.prog 29 #[.agg #[.int .i64 n, d, e], .pointer (some ⟨b, 0, none⟩)] w fun e w' => e = .returned (.bool (decide (n = no))) ∧ Below w.heap.size w w'
  go_enter Try.func29, Try.ntmps29
  go_wp2
  exact ⟨rfl, _, results_tmp (t := 3) rfl _ _ _, rfl, al1 _ _⟩
theorem set_2 (L B n b : Nat) (no : Int) (w : World) (cs : List Value) (x : Slot) (hok : IntAt b no w) (hx : RSlot L B w (RMsg L B w n) cs x) :
    Calls Try.prog 31 (#[.agg cs.toArray] ++ #[.pointer (some ⟨b, 0, none⟩)]) w fun e w' => e = .returned (.bool (overNo no x)) ∧ Below w.heap.size w w' := by
  obtain ⟨c, d, rfl, h1, h2, -, -⟩ := hx
  have hc := hok
  unfold IntAt at hc
  have bl := block_lt_of_cell hc
  clear hok
  show Calls Try.prog 31 #[.agg #[.int .i64 x.no, c, d], .pointer (some ⟨b, 0, none⟩)] w _
  go_enter Try.func31, Try.ntmps31
  go_wp2
  exact ⟨rfl, _, results_tmp (t := 3) rfl _ _ _, rfl, al1 _ _⟩
/-- What value.Set tells. -/
def without (m : Msg) (no : Int) : List Slot := m.f.filter fun x => !isNo no x
def placed (r : List Slot) (s : Slot) : List Slot := r.take ((r.findIdx? (overNo s.no)).getD r.length) ++ s :: r.drop ((r.findIdx? (overNo s.no)).getD r.length)
def setSlot (m : Msg) (s : Slot) : Msg := .mk (if s.v = [] then without m s.no else placed (without m s.no) s)
/-- A row of one's own, however it was made; its elements, as they read in an older world, lie in blocks behind it. -/
def OwnAt (L B : Nat) (w w0 : World) (n : Nat) (v : Value) (xs : List Slot) : Prop :=
  ∃ ts, w.ownsRow B 27 3 v ts.length (flat ts) ∧ (∀ g, v.ownBlock = some g → AllR (RSlot L (g + 1) w0 (RMsg L (g + 1) w0 n)) ts xs) ∧ AllR (RSlot L B w0 (RMsg L B w0 n)) ts xs
/-- What that older world has behind the row is still so. -/
def KeepsOf (v : Value) (B : Nat) (w0 w : World) : Prop := (∀ g, v.ownBlock = some g → Keeps (g + 1) w0 w) ∧ (v.ownBlock = none → Keeps B w0 w)
theorem Made.own {L n B : Nat} {w : World} {v : Value} {xs : List Slot} (h : Made 27 3 B w (fun b => RSlot L b w (RMsg L b w n)) v xs) : OwnAt L B w w n v xs := by
  rcases h with ⟨rfl, rfl⟩ | ⟨g, ys, rfl, ho, hp⟩
  · exact ⟨[], World.ownsRow_nil _ _ _ _, by simp [Value.ownBlock], trivial⟩
  · obtain ⟨ts, rfl, ha⟩ := Part.all (fun cs x h => by obtain ⟨c0, c1, c2, e, -⟩ := rslot_three L (g + 1) n w cs x h; exact ⟨c0, c1, c2, e⟩) ho.1 hp
    have hl := ha.length
    have hg := (ho.lt g rfl).1
    refine ⟨ts, by rw [hl]; exact ho, fun g' hg' => ?_, ha.imp fun t x _ _ h => rslot_keepB L n _ _ _ _ _ _ (by omega) (Keeps.refl _ _) h⟩
    simp only [Value.ownBlock, Option.some.injEq] at hg'
    subst hg'
    exact ha
theorem rslot_cells {L B n : Nat} {w : World} {t : Cell3} {x : Slot} (h : RSlot L B w (RMsg L B w n) (cells3 t) x) : (t.1.oneCell' = true ∧ t.2.1.oneCell' = true ∧ t.2.2.oneCell' = true) ∧ IntCell t ∧ noC t = x.no := by
  obtain ⟨c0, c1, c2, e, o0, o1, o2⟩ := rslot_three L B n w _ _ h
  obtain ⟨c, d, e', h1, h2, -, -⟩ := h
  obtain ⟨t0, t1, t2⟩ := t
  simp only [cells3, List.cons.injEq, and_true] at e e'
  obtain ⟨rfl, rfl, rfl⟩ := e
  obtain ⟨rfl, rfl, rfl⟩ := e'
  exact ⟨⟨rfl, o1, o2⟩, ⟨_, rfl, h1, h2⟩, rfl⟩
theorem isNo_cell {L B n : Nat} {w : World} (no : Int) (t : Cell3) (x : Slot) (h : RSlot L B w (RMsg L B w n) (cells3 t) x) : (!decide (noC t = no)) = !isNo no x := by
  rw [(rslot_cells h).2.2]; rfl
theorem OwnAt.kept {L B n : Nat} {w w' w0 : World} {v : Value} {xs : List Slot} {row : Option Nat} (h : OwnAt L B w w0 n v xs) (hg : w.grownBy w' row) (hne : v.ownBlock = none ∨ v.ownBlock ≠ row) : OwnAt L B w' w0 n v xs := by
  obtain ⟨ts, ho, h1, h2⟩ := h
  exact ⟨ts, ho.kept hg hne, h1, h2⟩
theorem OwnAt.slice {L B n : Nat} {w w0 : World} {v : Value} {xs : List Slot} (h : OwnAt L B w w0 n v xs) : ∃ a cap, v = .slice a xs.length cap ∧ xs.length ≤ cap ∧ cap ≤ maxLen ∧ ∀ g, v.ownBlock = some g → B ≤ g ∧ g < w.heap.size ∧ ∃ k, w.shape? g = some (27, k) := by
  obtain ⟨ts, ho, -, ha⟩ := h
  have hl := ha.length
  rcases ho.2 with ⟨rfl, hn⟩ | ⟨g, cap, cur, rfl, h1, h2, h3, h4, -⟩
  · exact ⟨none, 0, by rw [← hl, hn], by omega, by simp, by simp [Value.ownBlock]⟩
  · refine ⟨_, cap, by rw [← hl], by omega, h4, fun g' hg => ?_⟩
    simp only [Value.ownBlock, Option.some.injEq] at hg
    subst hg
    exact ⟨h1, (Array.getElem?_eq_some_iff.1 h2).1, _, shape_of_block h2⟩
theorem OwnAt.all {L B B' n : Nat} {w w0 w' : World} {v : Value} {xs : List Slot} (h : OwnAt L B w w0 n v xs) (hk : KeepsOf v B w0 w') (hB : B' ≤ B) : ∃ ts, w.ownsRow B 27 3 v ts.length (flat ts) ∧ AllR (RSlot L B' w' (RMsg L B' w' n)) ts xs := by
  obtain ⟨ts, ho, hg, ha⟩ := h
  refine ⟨ts, ho, ?_⟩
  cases hv : v.ownBlock with
  | none => exact ha.imp fun t x _ _ h => rslot_keepB L n _ _ _ _ _ _ hB (hk.2 hv) h
  | some g =>
    have := (ho.lt g hv).1
    exact (hg g hv).imp fun t x _ _ h => rslot_keepB L n _ _ _ _ _ _ (by omega) (hk.1 g hv) h
theorem OwnAt.row {L B B' n : Nat} {w w0 : World} {v : Value} {xs : List Slot} (h : OwnAt L B w w0 n v xs) (hk : KeepsOf v B w0 w) (hL : xs.length ≤ L) (hB : B' ≤ B) : RowOf L B' w 3 (RSlot L B' w (RMsg L B' w n)) v xs := by
  obtain ⟨ts, ho, ha⟩ := h.all hk hB
  have hl := ha.length
  exact Has.row (e := 27) (B := B) (R := RSlot L B' w (RMsg L B' w n)) ⟨flat ts, by rw [← hl]; exact ho, ha.part⟩ hL hB (Keeps.refl _ _) fun cs x _ h => h
/-- DeleteFunc, as value.Set calls it. -/
theorem del_own (L B n b : Nat) (no : Int) (hL : L ≤ 1048576) (w w0 : World) (v : Value) (xs : List Slot) (hxs : xs.length ≤ L) (h : OwnAt L B w w0 n v xs) (hok : IntAt b no w) (hb : b < B) :
    Calls Try.prog 28 #[v, .func (.func 29) #[] #[.pointer (some ⟨b, 0, none⟩)]] w fun e w' => ∃ v', e = .returned v' ∧
      OwnAt L B w' w0 n v' (xs.filter fun x => !isNo no x) ∧ v'.ownBlock = v.ownBlock ∧ w.grownBy w' v.ownBlock := by
  obtain ⟨ts, ho, hg, ha⟩ := h
  have hl := ha.length
  refine (deleteFunc_slot B (fun t => decide (noC t = no)) 29 #[.pointer (some ⟨b, 0, none⟩)] (enters_of Try.func29 (by kernel_rfl) rfl) (IntAt b no) (intAt_below b no) IntCell (fun w cs x => set_1 b no w cs x) w v ts
    (fun t ht => by obtain ⟨x, -, h⟩ := ha.mem t ht; exact (rslot_cells h).1) (fun t ht => by obtain ⟨x, -, h⟩ := ha.mem t ht; exact (rslot_cells h).2.1) (by omega) ho hok ?_).mono ?_
  · intro w' g o ds hv hi
    have hgb := (ho.lt g hv).1
    unfold IntAt at hi ⊢
    rw [World.cell?_setCells_out g ds o w' ⟨b, 0, none⟩ (fun e _ => by simp at e; omega)]
    exact hi
  · rintro e w' ⟨v', rfl, h1, h2, h3⟩
    exact ⟨v', rfl, ⟨_, h1, fun g hv => (hg g (by rw [← h2]; exact hv)).filter fun t x h => isNo_cell no t x h, ha.filter fun t x h => isNo_cell no t x h⟩, h2, h3⟩
/-- Insert, as value.Set calls it: what it answers reads so in each world that differs in one box alone. -/
theorem ins_own (L B Bs n i vb K : Nat) (hL : L ≤ 1048576) (w w0 : World) (v : Value) (xs : List Slot) (hxs : xs.length + 1 ≤ L) (h : OwnAt L B w w0 n v xs) (hk : KeepsOf v B w0 w) (hi : i ≤ xs.length) (t : Cell3) (s : Slot) (hvb : w.heap[vb]? = some (.cells (cells3 t).toArray 27 (0, 0)))
    (hs : RSlot L Bs w (RMsg L Bs w n) (cells3 t) s) (hB : B ≤ Bs) (hgs : ∀ g, v.ownBlock = some g → g < Bs ∧ g ≠ vb) (hbase : B ≤ w.heap.size) (hK : ∃ k, w.shape? K = some (24, k)) (hK0 : w0.heap.size ≤ K) (hKs : K < Bs) :
    Calls Try.prog 32 #[v, .int .i64 i, .slice (some ⟨vb, 0, none⟩) 1 1] w fun e w' => ∃ v', e = .returned v' ∧ (∃ a cap, v' = .slice a (xs.length + 1) cap) ∧ w.grownBy w' v.ownBlock ∧
      ∀ wf : World, (∀ p u, B ≤ p.block → p.block ≠ K → w'.cell? p = some u → wf.cell? p = some u) → RowOf L B wf 3 (RSlot L B wf (RMsg L B wf n)) v' (xs.take i ++ s :: xs.drop i) := by
  obtain ⟨kk, hK⟩ := hK
  have hKlt : K < w.heap.size := by
    rcases Nat.lt_or_ge K w.heap.size with h | h
    · exact h
    · simp [World.shape?, Array.getElem?_eq_none h] at hK
  have hvK : v.ownBlock ≠ some K := fun e => by
    obtain ⟨a, cap, rfl, -, -, hg⟩ := h.slice
    obtain ⟨-, -, k, hk⟩ := hg K e
    rw [hK] at hk; simp at hk
  obtain ⟨ts, ho, hg, ha⟩ := h
  have hl := ha.length
  refine (insert_slot B w v i ts (fun t ht => by obtain ⟨x, -, h⟩ := ha.mem t ht; exact (rslot_cells h).1) (by omega) (by omega) ho t vb hvb (rslot_cells hs).1 (fun e => (hgs vb e).2 rfl) hbase).mono ?_
  rintro e w' ⟨v', rfl, h1, h2⟩
  have hv' : (∃ a cap, v' = .slice a (xs.length + 1) cap) ∧ v'.ownBlock ≠ some K := by
    have hil : (inserted ts i t).length = xs.length + 1 := by rw [ins_len ts i t (by omega), hl]
    rcases h1.2 with ⟨rfl, hz⟩ | ⟨g, cap, cur, rfl, -, hc, -⟩
    · omega
    · refine ⟨⟨_, cap, by rw [hil]⟩, fun e => ?_⟩
      simp only [Value.ownBlock, Option.some.injEq] at e
      subst e
      have e1 := h2.block g hKlt (Ne.symm hvK)
      have e2 := shape_of_block hc
      unfold World.shape? at e2 hK
      rw [e1] at e2
      rw [e2] at hK; simp at hK
  refine ⟨v', rfl, hv'.1, h2, fun wf hwf => ?_⟩
  have hw0 : ∀ B', B ≤ B' → (∀ g, v.ownBlock = some g → g < B') → Keeps B' w0 w → Keeps B' w0 wf := fun B' hBB hb hk p u hp hu => by
    have hlt := block_lt_of_cell hu
    exact hwf p u (by omega) (by omega) (h2.cell (hk p u hp hu) (fun e => by have := hb _ e.symm; omega))
  have hws : Keeps Bs w wf := fun p u hp hu => hwf p u (by omega) (by omega) (h2.cell hu (fun e => by have := (hgs _ e.symm).1; omega))
  have hall : AllR (RSlot L B wf (RMsg L B wf n)) (inserted ts i t) (xs.take i ++ s :: xs.drop i) := by
    cases hv : v.ownBlock with
    | none =>
      have ha' := ha.imp fun t x _ _ h => rslot_keepB L n _ _ _ _ _ _ (Nat.le_refl _) (hw0 B (Nat.le_refl _) (by rw [hv]; simp) (hk.2 hv)) h
      exact (ha'.take i).app ⟨rslot_keepB L n _ _ _ _ _ _ hB hws hs, ha'.drop i⟩
    | some g =>
      have hgb := (ho.lt g hv).1
      have ha' := (hg g hv).imp fun t x _ _ h => rslot_keepB L n _ B _ _ _ _ (by omega) (hw0 (g + 1) (by omega) (by rw [hv]; simp) (hk.1 g hv)) h
      exact (ha'.take i).app ⟨rslot_keepB L n _ _ _ _ _ _ hB hws hs, ha'.drop i⟩
  have hlen := hall.length
  have hrow : RowOf L B w' 3 R3 v' (inserted ts i t) := by
    have h1t : ∀ u ∈ inserted ts i t, u.1.oneCell' = true ∧ u.2.1.oneCell' = true ∧ u.2.2.oneCell' = true := fun u hu => by obtain ⟨x, -, h⟩ := hall.mem u hu; exact (rslot_cells h).1
    have hil : (inserted ts i t).length ≤ L := by rw [hlen]; simp; omega
    refine Has.row (e := 27) (B := B) (R := R3) ⟨_, h1, fun j hj _ => ⟨cells3 (inserted ts i t)[j], rfl, fun q u hu => ?_, rfl, h1t _ (List.getElem_mem hj)⟩⟩ hil (Nat.le_refl _) (Keeps.refl _ _) (fun _ _ _ h => h)
    have hg := flat_get (inserted ts i t) j hj
    have hq : q < 3 := by have := (List.getElem?_eq_some_iff.1 hu).1; simpa [cells3] using this
    match q, hq with
    | 0, _ => rw [Nat.add_zero, hg.1]; simpa [cells3] using hu
    | 1, _ => rw [hg.2.1]; simpa [cells3] using hu
    | 2, _ => rw [hg.2.2]; simpa [cells3] using hu
  obtain ⟨a, cap, rfl, r1, r2, r3, r4, r5⟩ := hrow
  rw [hlen] at r1 r2
  refine ⟨a, cap, by rw [hlen], r1, r2, r3, r4, fun hne => ?_⟩
  obtain ⟨b, off, rfl, hb, hc⟩ := r5 (fun e => by rw [e] at hlen; simp at hlen)
  refine ⟨b, off, rfl, hb, fun j hj => ?_⟩
  obtain ⟨cs, k1, k2, k3⟩ := hc j (by omega)
  obtain ⟨k3, -⟩ := k3
  subst k3
  exact ⟨_, k1, fun q u hu => hwf _ _ hb (fun e => hv'.2 (by simp [Value.ownBlock, ← e])) (k2 q u hu), hall.get j (by omega) hj⟩
theorem al_cell {w : World} {o : Obj} {p : Addr} {v : Value} (h : w.cell? p = some v) : (w.alloc o).cell? p = some v := ((al1 w o).cell (block_lt_of_cell h)).trans h
theorem al_new (w : World) (v : Value) (t : TypeId) : (w.alloc (.cells #[v] t)).cell? ⟨w.heap.size, 0, none⟩ = some v := by simp [go_sem]
theorem al_newf (w : World) (v : Value) (t : TypeId) : (w.alloc (.cells #[v] t)).frozen? ⟨w.heap.size, 0, none⟩ = false := by simp [go_sem]
theorem al_frozen {w : World} {o : Obj} {p : Addr} (h : p.block < w.heap.size) : (w.alloc o).frozen? p = w.frozen? p := (al1 w o).frozen h
theorem own_any (o : Option Nat) : o = none ∨ o ≠ none := by cases o <;> simp
theorem keeps_setK {B K : Nat} {w0 w : World} (h : Keeps B w0 w) (hK : w0.heap.size ≤ K) (u : Value) : Keeps B w0 (w.setCell ⟨K, 0, none⟩ u) := fun p x hp hx => by
  have hlt := block_lt_of_cell hx
  rw [World.cell?_setCell_other _ _ _ _ (fun e => by subst e; simp at hlt; omega)]
  exact h p x hp hx
theorem KeepsOf.set {B : Nat} {v : Value} {w0 w : World} (h : KeepsOf v B w0 w) {p : Addr} (hp : p.block < B) (hg : ∀ g, v.ownBlock = some g → B ≤ g) (u : Value) : KeepsOf v B w0 (w.setCell p u) :=
  ⟨fun g e => (h.1 g e).set (by have := hg g e; omega) u, fun e => (h.2 e).set hp u⟩
theorem KeepsOf.setK {B K : Nat} {v : Value} {w0 w : World} (h : KeepsOf v B w0 w) (hK : w0.heap.size ≤ K) (u : Value) : KeepsOf v B w0 (w.setCell ⟨K, 0, none⟩ u) :=
  ⟨fun g e => keeps_setK (h.1 g e) hK u, fun e => keeps_setK (h.2 e) hK u⟩
theorem range_one {w : World} {b : Nat} {x : Value} (h : w.cell? ⟨b, 0, none⟩ = some x) : w.rangeAt b 0 [x] := fun j u hu => by
  have hj : j < 1 := by have := (List.getElem?_eq_some_iff.1 hu).1; simpa using this
  match j, hj with
  | 0, _ => simp at hu; subst hu; exact h
theorem KeepsOf.below {B : Nat} {v : Value} {w0 w w' : World} (h : KeepsOf v B w0 w) (hb : Below w.heap.size w w') : KeepsOf v B w0 w' :=
  ⟨fun g e => (h.1 g e).trans (.of_below hb), fun e => (h.2 e).trans (.of_below hb)⟩
theorem OwnAt.below {L B n : Nat} {w w' w0 : World} {v : Value} {xs : List Slot} (h : OwnAt L B w w0 n v xs) (hb : Below w.heap.size w w') : OwnAt L B w' w0 n v xs :=
  h.kept (row := none) ⟨hb.os, hb.tape, hb.output, hb.size, fun k hk _ => hb.block k hk⟩ (own_any _)
theorem shape_below {w w' : World} {b : Nat} {x : TypeId × Nat} (h : w.shape? b = some x) (hb : Below w.heap.size w w') : w'.shape? b = some x := by
  have hlt : b < w.heap.size := by
    rcases Nat.lt_or_ge b w.heap.size with h' | h'
    · exact h'
    · simp [World.shape?, Array.getElem?_eq_none h'] at h
  unfold World.shape? at h ⊢
  rw [hb.block b hlt]; exact h
theorem shape_set {w : World} {b : Nat} {x : TypeId × Nat} (h : w.shape? b = some x) (p : Addr) (u : Value) : (w.setCell p u).shape? b = some x :=
  (World.keptBut_setCell w p u (may := fun _ => True) trivial).shape h
theorem placed_at (r : List Slot) (s : Slot) : ∃ i, i ≤ r.length ∧ placed r s = r.take i ++ s :: r.drop i ∧ ((idxOf (overNo s.no) r = -1 ∧ i = r.length) ∨ idxOf (overNo s.no) r = (i : Int)) := by
  unfold placed idxOf
  cases h : r.findIdx? (overNo s.no) with
  | none => exact ⟨_, Nat.le_refl _, rfl, .inl ⟨rfl, rfl⟩⟩
  | some k => exact ⟨k, by obtain ⟨hk, -⟩ := List.findIdx?_eq_some_iff_getElem.1 h; omega, rfl, .inr rfl⟩
theorem frozen_grown {w w' : World} {row : Option Nat} (hg : w.grownBy w' row) {a : Addr} (h : a.block < w.heap.size) (hne : some a.block ≠ row) : w'.frozen? a = w.frozen? a :=
  World.frozen?_of_block (hg.block a.block h hne)
section
attribute [local go_sem] run_store
set_option maxHeartbeats 4000000 in
theorem value_set (L n : Nat) (hL : L ≤ 1048576) (w : World) (cs ds : List Value) (m : Msg) (s : Slot) (hx : RMsg L 0 w (n + 1) cs m) (hs : RSlot L 0 w (RMsg L 0 w n) ds s) (hlen : m.f.length + 1 ≤ L) :
    Calls Try.prog 12 #[.agg cs.toArray, .agg ds.toArray] w fun e w' => ∃ v', e = .returned (.agg #[v']) ∧ RMsg L w.heap.size w' (n + 1) [v'] (setSlot m s) ∧ Below w.heap.size w w' := by
  have HW := Lib.hid fun w' (hb : Below w.heap.size w w') => value_own_row L 0 n (by omega) w' cs m (RMsg.below hb (n + 1) hx)
  have HS := Lib.hid hs
  obtain ⟨c, rfl, h4⟩ := hx
  obtain ⟨a1, cap1, rfl, -⟩ := h4
  obtain ⟨c, d, rfl, hn1, hn2, h5, h6⟩ := hs
  obtain ⟨a2, cap2, rfl, -⟩ := h5
  obtain ⟨a3, cap3, rfl, p0, p1, p2, -, -⟩ := h6
  unfold maxLen at p2
  go_enter Try.func12, Try.ntmps12
  go_wp2_with fail
  · refine (HW.out _ (((al1 _ _).nx (al1 _ _)).nx (al1 _ _))).mono ?_; rintro e w1 ⟨v1, rfl, hm1, b1⟩
    have ho1 : OwnAt L (w.heap.size + 3) w1 w1 n v1 m.f := by have h := Made.own hm1; simp at h; exact h
    have HB1 := Lib.hid ((((al1 _ _).nx (al1 _ _)).nx (al1 _ _)).nx b1)
    have hz1 : w.heap.size + 3 ≤ w1.heap.size := by have := b1.size; simp at this; omega
    have m0 := (b1.cell (p := ⟨w.heap.size + 1, 0, none⟩) (by simp)).trans (show _ = some (Value.int .i64 s.no) by simp [go_sem])
    have m1 := (b1.cell (p := ⟨w.heap.size + 1, 1, none⟩) (by simp)).trans (show _ = some (Value.slice a2 s.k.length cap2) by simp [go_sem])
    have m2 := (b1.cell (p := ⟨w.heap.size + 1, 2, none⟩) (by simp)).trans (show _ = some (Value.slice a3 s.v.length cap3) by simp [go_sem])
    have z0 := (b1.cell (p := ⟨w.heap.size + 2, 0, none⟩) (by simp)).trans (show _ = some (Value.slice none 0 0) by simp [go_sem])
    have fz := (b1.frozen (p := ⟨w.heap.size + 2, 0, none⟩) (by simp)).trans (show _ = false by simp [go_sem])
    obtain ⟨ax, capx, rfl, -, -, hgx⟩ := ho1.slice
    have HO1 := Lib.hid ho1
    clear b1 hm1 ho1
    go_wp2_with fail
    refine (del_own L (w.heap.size + 3) n (w.heap.size + 1) s.no hL _ w1 _ m.f (by omega) (HO1.out.kept (World.grownBy_alloc _ _ none) (own_any _)) (al_cell m0) (by omega)).mono ?_
    rintro e w2 ⟨v2, rfl, ho2, hv2, hg2⟩
    have hgb : ∀ g, (Value.slice ax m.f.length capx).ownBlock = some g → w.heap.size + 3 ≤ g ∧ g < w1.heap.size := fun g h => ⟨(hgx g h).1, (hgx g h).2.1⟩
    have hne : ∀ b, (b < w.heap.size + 3 ∨ b = w1.heap.size) → some b ≠ (Value.slice ax m.f.length capx).ownBlock := fun b hb e => by have := hgb b e.symm; omega
    have hz2 := hg2.size
    have q0 := hg2.cell (a := ⟨w.heap.size + 1, 0, none⟩) (al_cell m0) (hne _ (by simp))
    have q1 := hg2.cell (a := ⟨w.heap.size + 1, 1, none⟩) (al_cell m1) (hne _ (by simp))
    have q2 := hg2.cell (a := ⟨w.heap.size + 1, 2, none⟩) (al_cell m2) (hne _ (by simp))
    have y0 := hg2.cell (a := ⟨w.heap.size + 2, 0, none⟩) (al_cell z0) (hne _ (by simp))
    have fy := (frozen_grown hg2 (a := ⟨w.heap.size + 2, 0, none⟩) (by simp; omega) (hne _ (by simp))).trans ((al_frozen (p := ⟨w.heap.size + 2, 0, none⟩) (block_lt_of_cell z0)).trans fz)
    have k0 := hg2.cell (a := ⟨w1.heap.size, 0, none⟩) (al_new w1 _ _) (hne _ (by simp))
    have fk := (frozen_grown hg2 (a := ⟨w1.heap.size, 0, none⟩) (by simp) (hne _ (by simp))).trans (al_newf w1 _ _)
    have sk : ∃ k, w2.shape? w1.heap.size = some (24, k) := ⟨_, shape_of_block ((hg2.block w1.heap.size (by simp) (hne _ (by simp))).trans (heap_alloc_new w1 _))⟩
    have b2 := (HB1.out.nx (al1 _ _)).grown hg2 (by simp; omega) (fun g h => by have := hgb g h; omega)
    have kp2 : KeepsOf v2 (w.heap.size + 3) w1 w2 := by
      refine ⟨fun g h => ?_, fun h => ?_⟩
      · rw [hv2] at h
        exact fun p u hp hu => hg2.cell ((al1 w1 _).cell (block_lt_of_cell hu) |>.trans hu) (by rw [h]; simp; omega)
      · rw [hv2] at h
        exact fun p u hp hu => hg2.cell ((al1 w1 _).cell (block_lt_of_cell hu) |>.trans hu) (by rw [h]; simp)
    obtain ⟨ay, capy, rfl, hy1, hy2, hgy⟩ := ho2.slice
    have HO2 := Lib.hid ho2
    have HB2 := Lib.hid b2
    have HKP := Lib.hid kp2
    have HGY := Lib.hid hgy
    have HSK := Lib.hid sk
    have HV2 := Lib.hid hv2
    have HGB := Lib.hid hgb
    clear ho2 b2 kp2 hgy sk hv2 hg2 hgb hgx hne m0 m1 m2 z0 fz
    have hg3 : ∀ g, (Value.slice ay (List.filter (fun x => !isNo s.no x) m.f).length capy).ownBlock = some g → w.heap.size + 3 ≤ g ∧ g < w1.heap.size := fun g h => HGB.out g (by rw [← HV2.out]; exact h)
    have hrl : (List.filter (fun x => !isNo s.no x) m.f).length ≤ m.f.length := List.length_filter_le _ _
    by_cases hsv : s.v = []
    · have hl0 : s.v.length = 0 := by rw [hsv]; rfl
      have hle : ((s.v.length : Int) == 0) = true := by simp [hsv]
      have HSV := Lib.hid hsv
      clear hsv
      go_wp2_with fail
      have hr : RowOf L (w.heap.size) ((w2.setCell ⟨w1.heap.size, 0, none⟩ (.slice ay (List.filter (fun x => !isNo s.no x) m.f).length capy)).setCell ⟨w.heap.size + 1 + 1, 0, none⟩ (.slice ay (List.filter (fun x => !isNo s.no x) m.f).length capy)) 3
          (RSlot L w.heap.size ((w2.setCell ⟨w1.heap.size, 0, none⟩ (.slice ay (List.filter (fun x => !isNo s.no x) m.f).length capy)).setCell ⟨w.heap.size + 1 + 1, 0, none⟩ (.slice ay (List.filter (fun x => !isNo s.no x) m.f).length capy)) (RMsg L w.heap.size ((w2.setCell ⟨w1.heap.size, 0, none⟩ (.slice ay (List.filter (fun x => !isNo s.no x) m.f).length capy)).setCell ⟨w.heap.size + 1 + 1, 0, none⟩ (.slice ay (List.filter (fun x => !isNo s.no x) m.f).length capy)) n))
          (.slice ay (List.filter (fun x => !isNo s.no x) m.f).length capy) (without m s.no) := by
        have h3 := (HO2.out.kept (grown_set w2 ⟨w1.heap.size, 0, none⟩ (.slice ay (List.filter (fun x => !isNo s.no x) m.f).length capy)) (.inr fun e => by have := hg3 _ e; simp only at this; omega)).kept (grown_set _ ⟨w.heap.size + 1 + 1, 0, none⟩ (.slice ay (List.filter (fun x => !isNo s.no x) m.f).length capy)) (.inr fun e => by have := hg3 _ e; simp only at this; omega)
        exact h3.row ((HKP.out.setK (Nat.le_refl _) _).set (p := ⟨w.heap.size + 1 + 1, 0, none⟩) (by simp) (fun g h => (hg3 g h).1) _) (by have := List.length_filter_le (fun x => !isNo s.no x) m.f; omega) (by omega)
      refine bodyPost_ret (v := .agg #[.slice ay (List.filter (fun x => !isNo s.no x) m.f).length capy]) (results_cell_mid rfl _ _ (w.heap.size + 2) 0 [_] _ rfl (range_one (World.cell?_setCell_same _ _ _ (u := Value.slice none 0 0) ((World.cell?_setCell_other _ _ _ _ (fun e => by simp at e <;> omega)).trans y0))) Try.underlying24 rfl (by kernel_rfl)) rfl ⟨_, rfl, ⟨_, rfl, by unfold setSlot Msg.f; rw [if_pos HSV.out]; exact hr⟩, ?_⟩
      exact (HB2.out.setCell (p := ⟨w1.heap.size, 0, none⟩) (by simp only; omega) _).setCell (p := ⟨w.heap.size + 1 + 1, 0, none⟩) (by simp only; omega) _
    · have hl0 : 0 < s.v.length := List.length_pos_iff.2 hsv
      have hle : ((s.v.length : Int) == 0) = false := by simp; exact hsv
      have hle2 : ¬ ((s.v.length : Int) = 0) := by omega
      have HSV := Lib.hid hsv
      clear hsv
      have h3 := HO2.out.kept (grown_set w2 ⟨w1.heap.size, 0, none⟩ (.slice ay (List.filter (fun x => !isNo s.no x) m.f).length capy)) (.inr fun e => by have := hg3 _ e; simp only at this; omega)
      have k3 := HKP.out.setK (Nat.le_refl _) (.slice ay (List.filter (fun x => !isNo s.no x) m.f).length capy)
      have r3 := h3.row k3 (by omega) (Nat.zero_le _)
      have hint : IntAt (w.heap.size + 1) s.no (w2.setCell ⟨w1.heap.size, 0, none⟩ (.slice ay (List.filter (fun x => !isNo s.no x) m.f).length capy)) := (World.cell?_setCell_other _ _ _ _ (fun e => by simp at e <;> omega)).trans q0
      obtain ⟨i, hi, hpl, hcase⟩ := placed_at (List.filter (fun x => !isNo s.no x) m.f) s
      have HPL := Lib.hid hpl
      have H3 := Lib.hid h3
      have K3 := Lib.hid k3
      have HI := Lib.hid (indexFunc_slot L 0 (by unfold maxLen; omega) (fun w => RSlot L 0 w (RMsg L 0 w n)) (rslot_stands L 0 n) (rslot_three L 0 n) (overNo s.no) 31 #[.pointer (some ⟨w.heap.size + 1, 0, none⟩)] (enters_of Try.func31 (by kernel_rfl) rfl)
        (IntAt (w.heap.size + 1) s.no) (intAt_below _ s.no) (fun w' cs x => set_2 L 0 n _ s.no w' cs x) _ _ _ r3 hint)
      have HVS := Lib.hid fun w' (hb : Below w.heap.size w w') => value_slot L 0 n (by omega) w' _ s (HS.out.below hb)
      have HB3 := Lib.hid (HB2.out.setCell (p := ⟨w1.heap.size, 0, none⟩) (by simp only; omega) (.slice ay (List.filter (fun x => !isNo s.no x) m.f).length capy))
      have SK3 : Hid (∃ k, (w2.setCell ⟨w1.heap.size, 0, none⟩ (.slice ay (List.filter (fun x => !isNo s.no x) m.f).length capy)).shape? w1.heap.size = some (24, k)) := by
        obtain ⟨k, hk⟩ := HSK.out
        exact ⟨k, shape_set hk _ _⟩
      have n0 := (World.cell?_setCell_other w2 ⟨w1.heap.size, 0, none⟩ ⟨w.heap.size + 1, 0, none⟩ (.slice ay (List.filter (fun x => !isNo s.no x) m.f).length capy) (fun e => by simp at e <;> omega)).trans q0
      have n1 := (World.cell?_setCell_other w2 ⟨w1.heap.size, 0, none⟩ ⟨w.heap.size + 1, 1, none⟩ (.slice ay (List.filter (fun x => !isNo s.no x) m.f).length capy) (fun e => by simp at e <;> omega)).trans q1
      have n2 := (World.cell?_setCell_other w2 ⟨w1.heap.size, 0, none⟩ ⟨w.heap.size + 1, 2, none⟩ (.slice ay (List.filter (fun x => !isNo s.no x) m.f).length capy) (fun e => by simp at e <;> omega)).trans q2
      have n3 := (World.cell?_setCell_other w2 ⟨w1.heap.size, 0, none⟩ ⟨w.heap.size + 2, 0, none⟩ (.slice ay (List.filter (fun x => !isNo s.no x) m.f).length capy) (fun e => by simp at e <;> omega)).trans y0
      have n4 := World.cell?_setCell_same w2 _ (.slice ay (List.filter (fun x => !isNo s.no x) m.f).length capy) k0
      have HN := Lib.hid (And.intro n0 (And.intro n1 (And.intro n2 (And.intro n3 n4))))
      clear h3 k3 r3 hint hpl n0 n1 n2 n3 n4
      rcases hcase with ⟨hix, rfl⟩ | hix
      all_goals rw [hix] at HI
      all_goals clear hix
      all_goals (
        go_wp2_with fail
        refine HI.out.mono ?_; rintro e w4 ⟨rfl, b4⟩
        obtain ⟨n0, n1, n2, n3, n4⟩ := HN.out
        have x0 := (b4.cell (block_lt_of_cell n0)).trans n0
        have x1 := (b4.cell (block_lt_of_cell n1)).trans n1
        have x2 := (b4.cell (block_lt_of_cell n2)).trans n2
        have x3 := (b4.cell (block_lt_of_cell n3)).trans n3
        have x4 := (b4.cell (block_lt_of_cell n4)).trans n4
        have g3 := (b4.frozen (block_lt_of_cell n3)).trans ((World.frozen?_setCell _ _ _ _).trans fy)
        have g4 := (b4.frozen (block_lt_of_cell n4)).trans ((World.frozen?_setCell _ _ _ _).trans fk)
        have H4 := Lib.hid (H3.out.below b4)
        have K4 := Lib.hid (K3.out.below b4)
        have HB4 := Lib.hid (HB3.out.nx b4)
        have hz4 := b4.size
        have SK4 : Hid (∃ k, w4.shape? w1.heap.size = some (24, k)) := by
          obtain ⟨k, hk⟩ := SK3.out
          exact ⟨k, shape_below hk b4⟩
        have hw14 : w1.heap.size < w4.heap.size := block_lt_of_cell x4
        clear n0 n1 n2 n3 n4 b4 HI H3 K3 HB3 SK3 HN hz4)
      · have hneg : decide ((-1 : Int) < 0) = true := by decide
        go_wp2_with fail
        go_region_with (first
          | (go_at_call 33; (with_reducible refine (HVS.out _ HB4.out.drew).mono ?_); rintro e w5 ⟨ds, rfl, rd, b5⟩;
              (obtain ⟨d0, d1, d2, rfl, o0, o1, o2⟩ := rslot_three L _ n _ _ _ rd); (have RD := Lib.hid rd);
              (have B5 := Lib.hid ((Below.refl w4.heap.size w4).drew.trans b5));
              (have v3 := (B5.out.cell (block_lt_of_cell x3)).trans x3); (have v4 := (B5.out.cell (block_lt_of_cell x4)).trans x4); (have l4 : w1.heap.size < w5.heap.size := block_lt_of_cell v4);
              (have u3 := (B5.out.frozen (block_lt_of_cell x3)).trans g3); (have u4 := (B5.out.frozen (block_lt_of_cell x4)).trans g4); clear rd b5)
          | (go_at_call 32;
              (with_reducible refine (ins_own L (w.heap.size + 3) w4.heap.size n (List.filter (fun x => !isNo s.no x) m.f).length w5.heap.size w1.heap.size hL (w5.alloc (.cells #[d0, d1, d2] 27)) w1 _ _ ?_ (H4.out.below (B5.out.alloc ?_ _)) (K4.out.below (B5.out.alloc ?_ _)) hi (d0, d1, d2) s ?_ ?_ ?_ ?_ ?_ ?_ ?_ ?_).mono ?_);
              (omega); (exact B5.out.size); (exact B5.out.size); (exact heap_alloc_new w5 _); (exact rslot_keepB L n _ _ _ _ _ _ (Nat.le_refl _) (.of_below (al1 w5 _)) RD.out);
              (omega); (exact fun g hg => ⟨by have := hg3 g hg; omega, by have := hg3 g hg; have := B5.out.size; omega⟩); (simp; have := B5.out.size; omega);
              (obtain ⟨k, hk⟩ := SK4.out; exact ⟨k, shape_below (shape_below hk B5.out) (al1 w5 _)⟩); (exact Nat.le_refl _); (exact hw14);
              rintro e w6 ⟨v6, rfl, ⟨a6, cap6, rfl⟩, h6, hf6⟩;
              (have H6 := Lib.hid h6); (have HF := Lib.hid hf6);
              (have t3 := h6.cell (al_cell (o := .cells #[d0, d1, d2] 27) v3) (fun e => by have := hg3 _ e.symm; simp only at this; omega));
              (have t4 := h6.cell (al_cell (o := .cells #[d0, d1, d2] 27) v4) (fun e => by have := hg3 _ e.symm; simp only at this; omega));
              (have s3 := (frozen_grown h6 (a := ⟨w.heap.size + 2, 0, none⟩) (by simp; have := block_lt_of_cell v3; simp only at this; omega) (fun e => by have := hg3 _ e.symm; simp only at this; omega)).trans ((al_frozen (o := .cells #[d0, d1, d2] 27) (p := ⟨w.heap.size + 2, 0, none⟩) (block_lt_of_cell v3)).trans u3));
              (have s4 := (frozen_grown h6 (a := ⟨w1.heap.size, 0, none⟩) (by simp; have := block_lt_of_cell v4; simp only at this; omega) (fun e => by have := hg3 _ e.symm; simp only at this; omega)).trans ((al_frozen (o := .cells #[d0, d1, d2] 27) (p := ⟨w1.heap.size, 0, none⟩) (block_lt_of_cell v4)).trans u4));
              clear h6 hf6))
        all_goals go_wp2_with fail
        all_goals (
          have yK : (w6.setCell ⟨w1.heap.size, 0, none⟩ (.slice a6 ((List.filter (fun x => !isNo s.no x) m.f).length + 1) cap6)).cell? ⟨w.heap.size + 1 + 1, 0, none⟩ = some (.slice none 0 0) := (World.cell?_setCell_other _ _ _ _ (fun e => by simp at e <;> omega)).trans t3
          have hF := HF.out ((w6.setCell ⟨w1.heap.size, 0, none⟩ (.slice a6 ((List.filter (fun x => !isNo s.no x) m.f).length + 1) cap6)).setCell ⟨w.heap.size + 1 + 1, 0, none⟩ (.slice a6 ((List.filter (fun x => !isNo s.no x) m.f).length + 1) cap6))
            (fun p u hp hne hu => (World.cell?_setCell_other _ _ _ _ (fun e => by subst e; simp only at hp; omega)).trans ((World.cell?_setCell_other _ _ _ _ (fun e => hne (by subst e; rfl))).trans hu))
          have b6 := ((HB4.out.nx B5.out).alloc (by have := HB4.out.size; have := B5.out.size; omega) (.cells #[d0, d1, d2] 27)).grown H6.out (by simp; have := HB4.out.size; have := B5.out.size; omega) (fun g h => by have := hg3 g h; omega)
          refine bodyPost_ret (v := .agg #[.slice a6 ((List.filter (fun x => !isNo s.no x) m.f).length + 1) cap6]) (results_cell_mid rfl _ _ (w.heap.size + 2) 0 [_] _ rfl (range_one (World.cell?_setCell_same _ _ _ yK)) Try.underlying24 rfl (by kernel_rfl)) rfl ⟨_, rfl, ⟨_, rfl, ?_⟩, (b6.setCell (p := ⟨w1.heap.size, 0, none⟩) (by simp only; omega) _).setCell (p := ⟨w.heap.size + 1 + 1, 0, none⟩) (by simp only; omega) _⟩
          unfold setSlot Msg.f
          rw [if_neg HSV.out]
          unfold without
          rw [HPL.out]
          exact hF.gen hF.len (by omega) (Keeps.refl _ _) fun cs x _ h => rslot_keepB L n _ _ _ _ _ _ (by omega) (Keeps.refl _ _) h)
      · have hneg : decide ((i : Int) < 0) = false := by simp
        go_wp2_with fail
        go_region_with (first
          | (go_at_call 33; (with_reducible refine (HVS.out _ HB4.out.drew).mono ?_); rintro e w5 ⟨ds, rfl, rd, b5⟩;
              (obtain ⟨d0, d1, d2, rfl, o0, o1, o2⟩ := rslot_three L _ n _ _ _ rd); (have RD := Lib.hid rd);
              (have B5 := Lib.hid ((Below.refl w4.heap.size w4).drew.trans b5));
              (have v3 := (B5.out.cell (block_lt_of_cell x3)).trans x3); (have v4 := (B5.out.cell (block_lt_of_cell x4)).trans x4); (have l4 : w1.heap.size < w5.heap.size := block_lt_of_cell v4);
              (have u3 := (B5.out.frozen (block_lt_of_cell x3)).trans g3); (have u4 := (B5.out.frozen (block_lt_of_cell x4)).trans g4); clear rd b5)
          | (go_at_call 32;
              (with_reducible refine (ins_own L (w.heap.size + 3) w4.heap.size n i w5.heap.size w1.heap.size hL (w5.alloc (.cells #[d0, d1, d2] 27)) w1 _ _ ?_ (H4.out.below (B5.out.alloc ?_ _)) (K4.out.below (B5.out.alloc ?_ _)) hi (d0, d1, d2) s ?_ ?_ ?_ ?_ ?_ ?_ ?_ ?_).mono ?_);
              (omega); (exact B5.out.size); (exact B5.out.size); (exact heap_alloc_new w5 _); (exact rslot_keepB L n _ _ _ _ _ _ (Nat.le_refl _) (.of_below (al1 w5 _)) RD.out);
              (omega); (exact fun g hg => ⟨by have := hg3 g hg; omega, by have := hg3 g hg; have := B5.out.size; omega⟩); (simp; have := B5.out.size; omega);
              (obtain ⟨k, hk⟩ := SK4.out; exact ⟨k, shape_below (shape_below hk B5.out) (al1 w5 _)⟩); (exact Nat.le_refl _); (exact hw14);
              rintro e w6 ⟨v6, rfl, ⟨a6, cap6, rfl⟩, h6, hf6⟩;
              (have H6 := Lib.hid h6); (have HF := Lib.hid hf6);
              (have t3 := h6.cell (al_cell (o := .cells #[d0, d1, d2] 27) v3) (fun e => by have := hg3 _ e.symm; simp only at this; omega));
              (have t4 := h6.cell (al_cell (o := .cells #[d0, d1, d2] 27) v4) (fun e => by have := hg3 _ e.symm; simp only at this; omega));
              (have s3 := (frozen_grown h6 (a := ⟨w.heap.size + 2, 0, none⟩) (by simp; have := block_lt_of_cell v3; simp only at this; omega) (fun e => by have := hg3 _ e.symm; simp only at this; omega)).trans ((al_frozen (o := .cells #[d0, d1, d2] 27) (p := ⟨w.heap.size + 2, 0, none⟩) (block_lt_of_cell v3)).trans u3));
              (have s4 := (frozen_grown h6 (a := ⟨w1.heap.size, 0, none⟩) (by simp; have := block_lt_of_cell v4; simp only at this; omega) (fun e => by have := hg3 _ e.symm; simp only at this; omega)).trans ((al_frozen (o := .cells #[d0, d1, d2] 27) (p := ⟨w1.heap.size, 0, none⟩) (block_lt_of_cell v4)).trans u4));
              clear h6 hf6))
        all_goals go_wp2_with fail
        all_goals (
          have yK : (w6.setCell ⟨w1.heap.size, 0, none⟩ (.slice a6 ((List.filter (fun x => !isNo s.no x) m.f).length + 1) cap6)).cell? ⟨w.heap.size + 1 + 1, 0, none⟩ = some (.slice none 0 0) := (World.cell?_setCell_other _ _ _ _ (fun e => by simp at e <;> omega)).trans t3
          have hF := HF.out ((w6.setCell ⟨w1.heap.size, 0, none⟩ (.slice a6 ((List.filter (fun x => !isNo s.no x) m.f).length + 1) cap6)).setCell ⟨w.heap.size + 1 + 1, 0, none⟩ (.slice a6 ((List.filter (fun x => !isNo s.no x) m.f).length + 1) cap6))
            (fun p u hp hne hu => (World.cell?_setCell_other _ _ _ _ (fun e => by subst e; simp only at hp; omega)).trans ((World.cell?_setCell_other _ _ _ _ (fun e => hne (by subst e; rfl))).trans hu))
          have b6 := ((HB4.out.nx B5.out).alloc (by have := HB4.out.size; have := B5.out.size; omega) (.cells #[d0, d1, d2] 27)).grown H6.out (by simp; have := HB4.out.size; have := B5.out.size; omega) (fun g h => by have := hg3 g h; omega)
          refine bodyPost_ret (v := .agg #[.slice a6 ((List.filter (fun x => !isNo s.no x) m.f).length + 1) cap6]) (results_cell_mid rfl _ _ (w.heap.size + 2) 0 [_] _ rfl (range_one (World.cell?_setCell_same _ _ _ yK)) Try.underlying24 rfl (by kernel_rfl)) rfl ⟨_, rfl, ⟨_, rfl, ?_⟩, (b6.setCell (p := ⟨w1.heap.size, 0, none⟩) (by simp only; omega) _).setCell (p := ⟨w.heap.size + 1 + 1, 0, none⟩) (by simp only; omega) _⟩
          unfold setSlot Msg.f
          rw [if_neg HSV.out]
          unfold without
          rw [HPL.out]
          exact hF.gen hF.len (by omega) (Keeps.refl _ _) fun cs x _ h => rslot_keepB L n _ _ _ _ _ _ (by omega) (Keeps.refl _ _) h)
end
end Go.Proofs.Ytogcnodgpgiacaa
