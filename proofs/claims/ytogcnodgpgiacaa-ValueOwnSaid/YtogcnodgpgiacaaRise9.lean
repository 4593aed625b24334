/- Slots that rise; what is set in either order. -/
import Derived.Test.YtogcnodgpgiacaaPlain9
import Derived.Deep.QuietTactic
import Derived.BigQuiet
import Derived.IntWalk
namespace Go.Tr
open Go.Proofs.Ytogcnodgpgiacaa
set_option linter.unusedVariables false
set_option linter.unusedSimpArgs false
def Rise (l : List Slot) : Prop := l.Pairwise fun x y => x.no < y.no
theorem rise_of_next (l : List Slot) (h : ∀ i (h : i + 1 < l.length), l[i].no < l[i + 1].no) : Rise l := by
  unfold Rise
  rw [List.pairwise_iff_getElem]
  intro i j hi hj hij
  obtain ⟨d, rfl⟩ : ∃ d, j = i + 1 + d := ⟨j - i - 1, by omega⟩
  induction d with
  | zero => exact h i hj
  | succ d ih => exact Int.lt_trans (ih (by omega) (by omega)) (h (i + 1 + d) hj)
theorem rise_ext : ∀ (a b : List Slot), Rise a → Rise b → (∀ x, x ∈ a ↔ x ∈ b) → a = b
  | [], [], _, _, _ => rfl
  | [], y :: b, _, _, h => by have := (h y).2 (by simp); simp at this
  | x :: a, [], _, _, h => by have := (h x).1 (by simp); simp at this
  | x :: a, y :: b, ha, hb, h => by
    obtain ⟨ha1, ha2⟩ := List.pairwise_cons.1 ha
    obtain ⟨hb1, hb2⟩ := List.pairwise_cons.1 hb
    have hxy : x = y := by
      rcases List.mem_cons.1 ((h x).1 (by simp)) with e | hx
      · exact e
      · rcases List.mem_cons.1 ((h y).2 (by simp)) with e | hy
        · exact e.symm
        · have := ha1 y hy; have := hb1 x hx; omega
    subst hxy
    congr 1
    refine rise_ext a b ha2 hb2 fun z => ⟨fun hz => ?_, fun hz => ?_⟩
    · rcases List.mem_cons.1 ((h z).1 (by simp [hz])) with e | h'
      · subst e; have := ha1 z hz; omega
      · exact h'
    · rcases List.mem_cons.1 ((h z).2 (by simp [hz])) with e | h'
      · subst e; have := hb1 z hz; omega
      · exact h'
theorem mem_placed (r : List Slot) (s x : Slot) : x ∈ placed r s ↔ x = s ∨ x ∈ r := by
  unfold placed
  generalize (r.findIdx? (overNo s.no)).getD r.length = i
  have h : x ∈ r ↔ x ∈ r.take i ∨ x ∈ r.drop i := by rw [← List.mem_append, List.take_append_drop]
  rw [h]; simp
  constructor <;> (intro h; rcases h with h | h | h <;> simp [h])
theorem rise_placed (r : List Slot) (s : Slot) (hr : Rise r) (hno : ∀ x ∈ r, x.no ≠ s.no) : Rise (placed r s) := by
  unfold placed
  have hlo : ∀ x ∈ r.take ((r.findIdx? (overNo s.no)).getD r.length), x.no < s.no := by
    intro x hx
    obtain ⟨j, hj, rfl⟩ := List.mem_iff_getElem.1 hx
    have hjl : j < r.length := Nat.lt_of_lt_of_le hj (by rw [List.length_take]; exact Nat.min_le_right _ _)
    rw [List.getElem_take]
    have hne := hno _ (List.getElem_mem hjl)
    have hov : overNo s.no r[j] = false := by
      cases hf : r.findIdx? (overNo s.no) with
      | none => exact List.findIdx?_eq_none_iff.1 hf _ (List.getElem_mem _)
      | some k =>
        obtain ⟨hk, -, h2⟩ := List.findIdx?_eq_some_iff_getElem.1 hf
        rw [hf] at hj
        simp at hj
        simpa using h2 j (by omega)
    simp only [overNo, decide_eq_false_iff_not] at hov
    omega
  have hhi : ∀ x ∈ r.drop ((r.findIdx? (overNo s.no)).getD r.length), s.no < x.no := by
    cases hf : r.findIdx? (overNo s.no) with
    | none => intro x hx; simp at hx
    | some k =>
      obtain ⟨hk, h1, -⟩ := List.findIdx?_eq_some_iff_getElem.1 hf
      simp only [overNo, decide_eq_true_eq] at h1
      intro x hx
      simp only [Option.getD_some] at hx
      rw [List.drop_eq_getElem_cons hk] at hx
      rcases List.mem_cons.1 hx with rfl | hx
      · omega
      · have hp := (List.pairwise_append.1 (show ((r.take (k + 1)) ++ r.drop (k + 1)).Pairwise _ by rw [List.take_append_drop]; exact hr)).2.2
        have := hp r[k] (by rw [List.take_succ_eq_append_getElem hk]; exact List.mem_append_right _ (List.mem_singleton.2 rfl)) x hx
        omega
  generalize (r.findIdx? (overNo s.no)).getD r.length = i at hlo hhi
  have hp := List.pairwise_append.1 (show ((r.take i) ++ r.drop i).Pairwise _ by rw [List.take_append_drop]; exact hr)
  refine List.pairwise_append.2 ⟨hp.1, List.pairwise_cons.2 ⟨fun x hx => hhi x hx, hp.2.1⟩, fun x hx y hy => ?_⟩
  rcases List.mem_cons.1 hy with rfl | hy
  · exact hlo x hx
  · have := hlo x hx; have := hhi y hy; omega
theorem without_no (m : Msg) (no : Int) : ∀ x ∈ without m no, x.no ≠ no := by
  intro x hx e
  have := (List.mem_filter.1 hx).2
  simp [isNo, e] at this
theorem rise_set (m : Msg) (s : Slot) (h : Rise m.f) : Rise (setSlot m s).f := by
  have e : (setSlot m s).f = if s.v = [] then without m s.no else placed (without m s.no) s := rfl
  rw [e]
  have hr : Rise (without m s.no) := List.Pairwise.filter _ h
  split
  · exact hr
  · exact rise_placed _ s hr (without_no m s.no)
theorem mem_set (m : Msg) (s x : Slot) : x ∈ (setSlot m s).f ↔ (x = s ∧ s.v ≠ []) ∨ (x ∈ m.f ∧ x.no ≠ s.no) := by
  have hw : x ∈ without m s.no ↔ x ∈ m.f ∧ x.no ≠ s.no := by unfold without; rw [List.mem_filter]; simp [isNo]
  unfold setSlot
  show x ∈ (if s.v = [] then without m s.no else placed (without m s.no) s) ↔ _
  split
  · rename_i h; rw [hw]; simp [h]
  · rename_i h; rw [mem_placed, hw]; simp [h]
theorem set_set (m : Msg) (s t : Slot) (h : Rise m.f) (hn : s.no ≠ t.no) : setSlot (setSlot m s) t = setSlot (setSlot m t) s := by
  have hf : (setSlot (setSlot m s) t).f = (setSlot (setSlot m t) s).f := by
    refine rise_ext _ _ (rise_set _ _ (rise_set _ _ h)) (rise_set _ _ (rise_set _ _ h)) fun x => ?_
    rw [mem_set, mem_set, mem_set, mem_set]
    constructor
    · rintro (⟨rfl, h1⟩ | ⟨⟨rfl, h1⟩ | ⟨h1, h2⟩, h3⟩)
      · exact .inr ⟨.inl ⟨rfl, h1⟩, fun e => hn e.symm⟩
      · exact .inl ⟨rfl, h1⟩
      · exact .inr ⟨.inr ⟨h1, h3⟩, h2⟩
    · rintro (⟨rfl, h1⟩ | ⟨⟨rfl, h1⟩ | ⟨h1, h2⟩, h3⟩)
      · exact .inr ⟨.inl ⟨rfl, h1⟩, hn⟩
      · exact .inl ⟨rfl, h1⟩
      · exact .inr ⟨.inr ⟨h1, h3⟩, h2⟩
  generalize setSlot (setSlot m s) t = a at hf
  generalize setSlot (setSlot m t) s = b at hf
  obtain ⟨f⟩ := a; obtain ⟨g⟩ := b
  simp only [Msg.f] at hf
  rw [hf]
theorem filter_placed (r : List Slot) (s : Slot) (h : ∀ x ∈ r, x.no ≠ s.no) : (placed r s).filter (fun x => !isNo s.no x) = r := by
  unfold placed
  generalize (r.findIdx? (overNo s.no)).getD r.length = i
  rw [List.filter_append, List.filter_cons]
  have hs : (!isNo s.no s) = false := by simp [isNo]
  rw [hs]
  simp only [Bool.false_eq_true, if_false]
  rw [← List.filter_append, List.take_append_drop]
  exact List.filter_eq_self.2 fun x hx => by simp [isNo, h x hx]
theorem without_set (m : Msg) (s : Slot) : without (setSlot m s) s.no = without m s.no := by
  unfold setSlot
  show ((if s.v = [] then without m s.no else placed (without m s.no) s) : List Slot).filter _ = _
  split
  · unfold without; rw [List.filter_filter]; congr 1; funext x; simp
  · exact filter_placed _ s (without_no m s.no)
theorem set_over (m : Msg) (s t : Slot) (h : s.no = t.no) : setSlot (setSlot m s) t = setSlot m t := by
  have hw := without_set m s
  rw [h] at hw
  unfold setSlot at hw ⊢
  rw [hw]
open Go.RowKit in
theorem few_args2 {L n : Nat} {w w1 : World} {v0 c0 c1 c2 d0 d1 d2 : Value} {m : Msg} {s u : Slot} {t1 t2 : TypeId} (hb : Below w.heap.size w w1) (h0 : RMsg L 0 w (n + 1) [v0] m) (h1 : RSlot L 0 w (RMsg L 0 w n) [c0, c1, c2] s) (h2 : RSlot L 0 w (RMsg L 0 w n) [d0, d1, d2] u) (hL : 2 ≤ L) :
    RowOf L 0 ((w1.alloc (.cells #[c0, c1, c2, d0, d1, d2] t1)).alloc (.cells #[v0, .slice (some ⟨w1.heap.size, 0, none⟩) 2 2] t2)) 1 (RMsg L 0 ((w1.alloc (.cells #[c0, c1, c2, d0, d1, d2] t1)).alloc (.cells #[v0, .slice (some ⟨w1.heap.size, 0, none⟩) 2 2] t2)) (n + 1))
      (.slice (some ⟨w1.heap.size + 1, 0, none⟩) 2 2) [m, .mk [s, u]] := by
  have hz : (w1.alloc (.cells #[c0, c1, c2, d0, d1, d2] t1)).heap.size = w1.heap.size + 1 := by simp
  have hA : Below w.heap.size w ((w1.alloc (.cells #[c0, c1, c2, d0, d1, d2] t1)).alloc (.cells #[v0, .slice (some ⟨w1.heap.size, 0, none⟩) 2 2] t2)) := hb.nx ((al1 _ _).nx (al1 _ _))
  have hB := al1 (w1.alloc (.cells #[c0, c1, c2, d0, d1, d2] t1)) (.cells #[v0, .slice (some ⟨w1.heap.size, 0, none⟩) 2 2] t2)
  have hnew := heap_alloc_new (w1.alloc (.cells #[c0, c1, c2, d0, d1, d2] t1)) (.cells #[v0, .slice (some ⟨w1.heap.size, 0, none⟩) 2 2] t2)
  rw [hz] at hnew
  have hold := (hB.block w1.heap.size (by simp)).trans (heap_alloc_new w1 (.cells #[c0, c1, c2, d0, d1, d2] t1))
  refine msgs_row (b := w1.heap.size + 1) (cs := [v0, .slice (some ⟨w1.heap.size, 0, none⟩) 2 2]) (ms := [m, .mk [s, u]]) (t := t2) hL (by show 2 ≤ maxLen; unfold maxLen; omega) (Nat.zero_le _) hnew rfl ?_
  intro i h1' h2'
  match i, h1' with
  | 0, _ => exact RMsg.below hA (n + 1) h0
  | 1, _ =>
    refine ⟨_, rfl, _, 2, rfl, hL, Nat.le_refl _, by unfold maxLen; omega, by simp, fun _ => ⟨w1.heap.size, 0, rfl, Nat.zero_le _, fun i hi => ?_⟩⟩
    have hi2 : i < 2 := hi
    match i, hi2 with
    | 0, _ => exact ⟨[c0, c1, c2], rfl, fun j v hv => by
        have hj : j < 3 := by have := (List.getElem?_eq_some_iff.1 hv).1; simpa using this
        rw [cell_of_row _ w1.heap.size (0 + 0 * 3 + j) _ _ _ hold]
        match j, hj with
        | 0, _ => simpa using hv
        | 1, _ => simpa using hv
        | 2, _ => simpa using hv, h1.below hA⟩
    | 1, _ => exact ⟨[d0, d1, d2], rfl, fun j v hv => by
        have hj : j < 3 := by have := (List.getElem?_eq_some_iff.1 hv).1; simpa using this
        rw [cell_of_row _ w1.heap.size (0 + 1 * 3 + j) _ _ _ hold]
        match j, hj with
        | 0, _ => simpa using hv
        | 1, _ => simpa using hv
        | 2, _ => simpa using hv, h2.below hA⟩
/-- A slot among those of a message that is light. -/
theorem RSlot.shrinkIn {L L' B n : Nat} {w : World} {cs : List Value} {m : Msg} {s : Slot} (h : RSlot L B w (RMsg L B w n) cs s) (hs : s ∈ m.f) (hw : m.weight ≤ L') : RSlot L' B w (RMsg L' B w n) cs s := by
  refine h.gen ?_ (Nat.le_refl _) (Keeps.refl _ _) fun cs x hx h => RMsg.shrink n h ?_
  · obtain ⟨h1, h2, h3⟩ := weight_rows m hs
    exact ⟨by omega, by omega, fun x hx => by have := h3 x hx; omega⟩
  · obtain ⟨y, hy, hx⟩ := hx
    have := weight_sub (m := m) (x := x) (List.mem_flatMap.2 ⟨y, List.mem_flatMap.2 ⟨s, hs, List.mem_append.2 hy⟩, hx⟩)
    omega
end Go.Tr
namespace Go.Proofs.Ytogcnodgpgiacaa
open Go.RowKit Go.Tr
set_option linter.unusedVariables false
set_option linter.unusedSimpArgs false
def SetOut (n : Nat) (m : Msg) (w : World) (e : Ending) (w' : World) : Prop :=
  ∃ a cap, e = .returned (.agg #[.slice a m.f.length cap]) ∧ RMsg 10000 w.heap.size w' (n + 1) [.slice a m.f.length cap] m ∧ Below w.heap.size w w'
theorem set_out (n : Nat) (w : World) (c d0 d1 d2 : Value) (m : Msg) (s : Slot) (hx : RMsg 10000 0 w (n + 1) [c] m) (hs : RSlot 10000 0 w (RMsg 10000 0 w n) [d0, d1, d2] s) (hl : m.f.length + 1 ≤ 10000) :
    Calls Try.prog 12 #[.agg #[c], .agg #[d0, d1, d2]] w (SetOut n (setSlot m s) w) := by
  refine (value_set 10000 n (by omega) w [c] [d0, d1, d2] m s hx hs hl).mono ?_
  rintro e w' ⟨v, rfl, r, b⟩
  obtain ⟨a, cap, rfl⟩ := rmsg_slice r
  exact ⟨a, cap, rfl, r, b⟩
theorem set_len (m : Msg) (s : Slot) : (setSlot m s).f.length ≤ m.f.length + 1 := by
  have e : (setSlot m s).f = if s.v = [] then without m s.no else placed (without m s.no) s := rfl
  have hw : (without m s.no).length ≤ m.f.length := List.length_filter_le _ _
  rw [e]
  split
  · omega
  · unfold placed; simp; omega
def RisePost (m : Msg) (w : World) (e : Ending) (w' : World) : Prop := (∃ b : Bool, e = .returned (.bool b) ∧ (b = true → Rise m.f)) ∧ Below w.heap.size w w'
set_option maxHeartbeats 2000000 in
theorem law_rising (L n : Nat) (hL : L ≤ 1048576) (w : World) (cs : List Value) (m : Msg) (hx : RMsg L 0 w (n + 1) cs m) :
    Calls Try.prog 21 #[.agg cs.toArray] w (RisePost m w) := by
  obtain ⟨c, rfl, h4⟩ := hx
  have H4 := Lib.hid h4
  have hlen := h4.len
  obtain ⟨a1, cap1, rfl, q0, q1, q2, -, -⟩ := h4
  unfold maxLen at q2
  go_enter Try.func21, Try.ntmps21
  go_wp2
  go_loopw [3] (fun i wr => ∃ k : Nat, 1 ≤ k ∧ i = .int .i64 k ∧ Hid (Below w.heap.size w wr) ∧ Hid (Box1 w.heap.size wr (.slice a1 m.f.length cap1)) ∧ Hid (∀ j (h : j + 1 < m.f.length), j + 1 < k → m.f[j].no < m.f[j + 1].no)) (fun i _ => m.f.length - (intOf i).toNat)
  case atStart => exact ⟨1, by omega, rfl, al1 _ _, Box1.new _ _ _, fun j h h' => absurd h' (by omega)⟩
  case round =>
    obtain ⟨k, hk, rfl, hb, hbx, hall⟩ := hrel
    obtain ⟨l0, s0⟩ := hbx.out
    by_cases hlt : k < m.f.length
    · obtain ⟨q, rfl⟩ : ∃ q, k = q + 1 := ⟨k - 1, by omega⟩
      obtain ⟨b1, o1, c0, c1, c2, e1, -, m0, -, -, n0, -, -, rx⟩ := (H4.out.imp (R' := RSlot L 0 wr (RMsg L 0 wr n)) hb.out fun _ _ _ h => h.below hb.out).get3 (rslot_three L 0 n) (q + 1) hlt
      obtain ⟨b2, o2, d0, d1, d2, e2, -, p0, -, -, z0, -, -, ry⟩ := (H4.out.imp (R' := RSlot L 0 wr (RMsg L 0 wr n)) hb.out fun _ _ _ h => h.below hb.out).get3 (rslot_three L 0 n) q (by omega)
      subst e1
      cases e2
      obtain ⟨c, c', e, hn1, hn2, -, -⟩ := rx
      cases e
      obtain ⟨d, d', e', hn3, hn4, -, -⟩ := ry
      cases e'
      have bl := block_lt_of_cell m0
      clear n0 z0
      have hi3 : (0 : Int) ≤ (q : Int) := by omega
      have hi4 : (q : Int) < (m.f.length : Int) := by omega
      have hi5 : ((q + 1 : Nat) : Int) < (m.f.length : Int) := by omega
      have hi6 : (0 : Int) ≤ ((q + 1 : Nat) : Int) := by omega
      by_cases hge : m.f[q].no ≥ m.f[q + 1].no
      · have hgd : decide (m.f[q].no ≥ m.f[q + 1].no) = true := by simpa using hge
        have hi1 : ((q + 1 : Nat) : Int) - 1 = (q : Int) := by omega
        have hi2 : IntKind.i64.wrap (((q + 1 : Nat) : Int) - 1) = (q : Int) := by rw [hi1]; exact IntWalk.i64_in _ (by omega)
        go_wp2_with fail
        go_quiet (fail)
        go_wp2
        exact ⟨rfl, _, results_tmp (t := 2) rfl _ _ _, ⟨false, rfl, fun h => by cases h⟩, below_drewN hb.out _⟩
      · have hgd : decide (m.f[q].no ≥ m.f[q + 1].no) = false := by simpa using hge
        have HN := Lib.hid (show ∀ j (h : j + 1 < m.f.length), j + 1 < q + 1 + 1 → m.f[j].no < m.f[j + 1].no by
          intro j h h'
          rcases Nat.lt_or_ge (j + 1) (q + 1) with h1 | h1
          · exact hall.out j h h1
          · have : j = q := by omega
            subst this; omega)
        clear hall
        have hi1 : ((q + 1 : Nat) : Int) - 1 = (q : Int) := by omega
        have hi2 : IntKind.i64.wrap (((q + 1 : Nat) : Int) - 1) = (q : Int) := by rw [hi1]; exact IntWalk.i64_in _ (by omega)
        go_wp2_with fail
        go_quiet (fail)
        clear hi2 hi1
        go_wp2
        refine ⟨⟨q + 1 + 1, by omega, by go_num, below_drewN hb.out _, hbx.out.below (below_drewN (Below.refl _ _) _), HN.out⟩, ?_⟩
        simp only [intOf]
        omega
    · have HN := Lib.hid (rise_of_next m.f fun j h => hall.out j h (by omega))
      go_wp2
      exact ⟨rfl, _, results_tmp (t := 2) rfl _ _ _, ⟨true, rfl, fun _ => HN.out⟩, hb.out⟩
end Go.Proofs.Ytogcnodgpgiacaa
