/- The statement ValueSets: for every message, slot and number that are not too great, a slot that is set is got as it was set, setting it twice changes nothing, and slots of other numbers stay; no condition. -/
import Derived.Test.YtogcnodgpgiacaaRows
import Derived.WalkKit
import Derived.ProofKit
import Derived.OpenShut
import Derived.ShutString
import Derived.ChangeOld
import Derived.Below
import Derived.SizedLaws
import Derived.ChangeSlices
import Derived.Test.YtogcnodgpgiacaaFew9
import Derived.Test.YtogcnodgpgiacaaRise9
import Derived.Test.YtogcnodgpgiacaaRefSame2
namespace Go.Proofs.Ytogcnodgpgiacaa.valueSets
open Go.ChangeShapes Go.WideShapes Go.ChangeAt Go.RowKit Go.Tr Go.Proofs.Ytogcnodgpgiacaa
open Go.ChangeMaps (open_string shut_string)
set_option linter.unusedVariables false
set_option linter.unusedSimpArgs false

theorem own : ownKnob Try.prog.godebug = none := by kernel_rfl
theorem laidOut : laidOutB Try.prog = true := by kernel_rfl
theorem find_filter {no : Int} {p : Slot → Bool} : ∀ (l : List Slot), (∀ x ∈ l, isNo no x = true → p x = true) → (l.filter p).find? (isNo no) = l.find? (isNo no)
  | [], _ => rfl
  | x :: xs, h => by
    have ih := find_filter xs fun y hy => h y (by simp [hy])
    rw [List.filter_cons]
    cases hx : isNo no x with
    | true =>
      rw [h x (by simp) hx]
      simp [List.find?_cons, hx]
    | false =>
      cases hp : p x <;> simp [List.find?_cons, hx, ih]
theorem find_placed {no : Int} (r : List Slot) (s : Slot) (h : isNo no s = false) : (placed r s).find? (isNo no) = r.find? (isNo no) := by
  unfold placed
  generalize (r.findIdx? (overNo s.no)).getD r.length = i
  rw [List.find?_append, List.find?_cons, h]
  conv => rhs; rw [← List.take_append_drop i r, List.find?_append]
theorem find_set (m : Msg) (s : Slot) (no : Int) (h : no ≠ s.no) : (setSlot m s).f.find? (isNo no) = m.f.find? (isNo no) := by
  have e : (setSlot m s).f = if s.v = [] then without m s.no else placed (without m s.no) s := rfl
  have hw : (without m s.no).find? (isNo no) = m.f.find? (isNo no) := find_filter _ fun x _ hx => by
    simp [isNo] at hx ⊢; rw [hx]; exact h
  rw [e]
  split
  · exact hw
  · rw [find_placed _ s (by simp [isNo]; exact fun e => h e.symm), hw]
theorem has_find (m : Msg) (no : Int) : hasSlot m no = (m.f.find? (isNo no)).isSome := by
  unfold hasSlot
  cases h : m.f.find? (isNo no) with
  | none => rw [List.find?_eq_none] at h; simp; intro x hx; simpa using h x hx
  | some y => simp; exact ⟨y, List.mem_of_find?_eq_some h, List.find?_some h⟩
theorem get_other (m : Msg) (s : Slot) (no : Int) (h : no ≠ s.no) : getSlot (setSlot m s) no = getSlot m no ∧ hasSlot (setSlot m s) no = hasSlot m no := by
  have e := find_set m s no h
  refine ⟨?_, ?_⟩
  · unfold getSlot; rw [e]
  · rw [has_find, has_find, e]
theorem find_none_of {no : Int} (l : List Slot) (h : ∀ x ∈ l, x.no ≠ no) : l.find? (isNo no) = none := by
  rw [List.find?_eq_none]
  intro x hx
  simp [isNo, h x hx]
theorem get_gone (m : Msg) (s : Slot) (h : s.v = []) : hasSlot (setSlot m s) s.no = false := by
  have e : (setSlot m s).f = if s.v = [] then without m s.no else placed (without m s.no) s := rfl
  rw [has_find, e, if_pos h, find_none_of _ (without_no m s.no)]; rfl
theorem get_there (m : Msg) (s : Slot) (h : s.v ≠ []) : getSlot (setSlot m s) s.no = s ∧ hasSlot (setSlot m s) s.no = true := by
  have e : (setSlot m s).f = if s.v = [] then without m s.no else placed (without m s.no) s := rfl
  have hf : (setSlot m s).f.find? (isNo s.no) = some s := by
    rw [e, if_neg h]
    unfold placed
    generalize ((without m s.no).findIdx? (overNo s.no)).getD (without m s.no).length = i
    rw [List.find?_append, find_none_of _ (fun x hx => without_no m s.no x (List.mem_of_mem_take hx)), List.find?_cons]
    simp [isNo]
  refine ⟨?_, ?_⟩
  · unfold getSlot; rw [hf]; rfl
  · rw [has_find, hf]; rfl
theorem keep7 {w w' : World} {p0 p1 p2 p3 p4 p5 p6 : Addr} {v0 v1 v2 v3 v4 v5 v6 : Value} {K : Nat} (b : Below K w w') (hK : K = w.heap.size) (h : w.cell? p0 = some v0 ∧ w.cell? p1 = some v1 ∧ w.cell? p2 = some v2 ∧ w.cell? p3 = some v3 ∧ w.cell? p4 = some v4 ∧ w.cell? p5 = some v5 ∧ w.cell? p6 = some v6) :
    w'.cell? p0 = some v0 ∧ w'.cell? p1 = some v1 ∧ w'.cell? p2 = some v2 ∧ w'.cell? p3 = some v3 ∧ w'.cell? p4 = some v4 ∧ w'.cell? p5 = some v5 ∧ w'.cell? p6 = some v6 := by
  subst hK
  obtain ⟨h0, h1, h2, h3, h4, h5, h6⟩ := h
  exact ⟨(b.cell (block_lt_of_cell h0)).trans h0, (b.cell (block_lt_of_cell h1)).trans h1, (b.cell (block_lt_of_cell h2)).trans h2, (b.cell (block_lt_of_cell h3)).trans h3, (b.cell (block_lt_of_cell h4)).trans h4, (b.cell (block_lt_of_cell h5)).trans h5, (b.cell (block_lt_of_cell h6)).trans h6⟩
theorem same_one {n : Nat} (w : World) (a a' : Option Addr) (cap cap' : Nat) (m : Msg) (r : RMsg 10000 0 w (n + 1) [.slice a m.f.length cap] m) (r' : RMsg 10000 0 w (n + 1) [.slice a' m.f.length cap'] m) :
    Calls Try.prog 15 #[.agg #[.slice a m.f.length cap], .agg #[.slice a' m.f.length cap']] w fun e w' => e = .returned (.bool true) ∧ Below w.heap.size w w' :=
  (value_same 10000 0 (by unfold maxLen; omega) (n + 1) w [_] [_] m m r r').mono (by rintro e w' ⟨rfl, b⟩; exact ⟨by rw [same_yes rfl], b⟩)
theorem ref_two {n : Nat} {t t' : TypeId} (w0 W : World) (b b' : Nat) (g0 g1 g2 s0 s1 s2 : Value) (s : Slot) (hb : Below w0.heap.size w0 W) (hg : W.heap[b]? = some (.cells #[g0, g1, g2] t (0, 0))) (hs : W.heap[b']? = some (.cells #[s0, s1, s2] t' (0, 0)))
    (rg : RSlot 10000 0 w0 (RMsg 10000 0 w0 n) [g0, g1, g2] s) (rs : RSlot 10000 0 w0 (RMsg 10000 0 w0 n) [s0, s1, s2] s) :
    Calls Try.prog 14 #[.agg #[.slice (some ⟨b, 0, none⟩) 1 1], .agg #[.slice (some ⟨b', 0, none⟩) 1 1]] W fun e w' => e = .returned (.bool true) ∧ Below w0.heap.size w0 w' :=
  (ref_same 10000 0 (by unfold maxLen; omega) (n + 1) W [_] [_] (.mk [s]) (.mk [s]) (msg_one (by omega) (Nat.zero_le _) hg (rg.below hb)) (msg_one (by omega) (Nat.zero_le _) hs (rs.below hb))).mono (by
    rintro e w' ⟨rfl, b⟩; exact ⟨by rw [same_yes rfl], hb.nx b⟩)
theorem blk1 (w : World) (a b : Obj) : ((w.alloc a).alloc b).heap[w.heap.size]? = some a := by
  have h1 := heap_alloc_new w a
  exact ((al1 (w.alloc a) b).block w.heap.size (by simp)).trans h1
theorem blk2 (w : World) (a b : Obj) : ((w.alloc a).alloc b).heap[w.heap.size + 1]? = some b := by
  have h1 := heap_alloc_new (w.alloc a) b
  have h2 : (w.alloc a).heap.size = w.heap.size + 1 := by simp
  rw [h2] at h1; exact h1
theorem blk_s1 (w : World) (a b c : Obj) : (((w.alloc a).alloc b).alloc c).heap[w.heap.size + 1]? = some b := by
  have h := blk1 (w.alloc a) b c
  rw [show (w.alloc a).heap.size = w.heap.size + 1 by simp] at h; exact h
theorem blk_s2 (w : World) (a b c : Obj) : (((w.alloc a).alloc b).alloc c).heap[w.heap.size + 1 + 1]? = some c := by
  have h := blk2 (w.alloc a) b c
  rw [show (w.alloc a).heap.size = w.heap.size + 1 by simp] at h; exact h
theorem get_out (n : Nat) (w : World) (a : Option Addr) (cap : Nat) (m : Msg) (no : Int) (h1 : -9223372036854775808 ≤ no) (h2 : no ≤ 9223372036854775807) (r : RMsg 10000 0 w (n + 1) [.slice a m.f.length cap] m) :
    Calls Try.prog 13 #[.agg #[.slice a m.f.length cap], .int .i64 no] w fun e w' => ∃ e1 c1 e2 c2, e = .returned (.tuple #[.agg #[.int .i64 (getSlot m no).no, .slice e1 (getSlot m no).k.length c1, .slice e2 (getSlot m no).v.length c2], .bool (hasSlot m no)]) ∧
      RSlot 10000 0 w' (RMsg 10000 0 w' n) [.int .i64 (getSlot m no).no, .slice e1 (getSlot m no).k.length c1, .slice e2 (getSlot m no).v.length c2] (getSlot m no) ∧ Below w.heap.size w w' := by
  refine (value_get 10000 n (by omega) no h1 h2 w [_] m r).mono ?_
  rintro e w' ⟨ds, rfl, rg, b⟩
  have RG := RSlot.keep (B' := 0) (Nat.zero_le _) (Nat.le_refl n) rg (Keeps.refl _ _)
  obtain ⟨c, d, rfl, -, -, rk, rv⟩ := rg
  obtain ⟨e1, ec1, rfl, -⟩ := rk
  obtain ⟨e2, ec2, rfl, -⟩ := rv
  exact ⟨e1, ec1, e2, ec2, rfl, RG, b⟩
theorem gone (m : Msg) (no : Int) : hasSlot (.mk (without m no)) no = false := by
  rw [has_find]
  show ((without m no).find? (isNo no)).isSome = false
  rw [find_none_of _ (without_no m no)]; rfl
theorem keep2 {w w' : World} {p0 p1 : Addr} {v0 v1 : Value} {K : Nat} (b : Below K w w') (hK : K = w.heap.size) (h : w.cell? p0 = some v0 ∧ w.cell? p1 = some v1) : w'.cell? p0 = some v0 ∧ w'.cell? p1 = some v1 := by
  subst hK
  exact ⟨(b.cell (block_lt_of_cell h.1)).trans h.1, (b.cell (block_lt_of_cell h.2)).trans h.2⟩
theorem keep2set {w : World} {A B K : Nat} {u0 u1 u2 v0 v1 : Value} (hA : A ≠ K) (hB : B ≠ K) (h : w.cell? ⟨A, 0, none⟩ = some v0 ∧ w.cell? ⟨B, 0, none⟩ = some v1) :
    (((w.setCell ⟨K, 0, none⟩ u0).setCell ⟨K, 1, none⟩ u1).setCell ⟨K, 2, none⟩ u2).cell? ⟨A, 0, none⟩ = some v0 ∧ (((w.setCell ⟨K, 0, none⟩ u0).setCell ⟨K, 1, none⟩ u1).setCell ⟨K, 2, none⟩ u2).cell? ⟨B, 0, none⟩ = some v1 := by
  refine ⟨?_, ?_⟩
  · rw [World.cell?_setCell_other _ _ _ _ (fun e => hA (congrArg Addr.block e).symm), World.cell?_setCell_other _ _ _ _ (fun e => hA (congrArg Addr.block e).symm), World.cell?_setCell_other _ _ _ _ (fun e => hA (congrArg Addr.block e).symm)]; exact h.1
  · rw [World.cell?_setCell_other _ _ _ _ (fun e => hB (congrArg Addr.block e).symm), World.cell?_setCell_other _ _ _ _ (fun e => hB (congrArg Addr.block e).symm), World.cell?_setCell_other _ _ _ _ (fun e => hB (congrArg Addr.block e).symm)]; exact h.2
/-- A slot's fresh cells, if it has been made. -/
def Kept3 (K : Nat) (w : World) (b : Bool) : Prop := b = true → (w.cell? ⟨K, 0, none⟩ = some (.int .i64 0) ∧ w.cell? ⟨K, 1, none⟩ = some (.slice none 0 0) ∧ w.cell? ⟨K, 2, none⟩ = some (.slice none 0 0)) ∧ w.frozen? ⟨K, 0, none⟩ = false ∧ w.frozen? ⟨K, 1, none⟩ = false ∧ w.frozen? ⟨K, 2, none⟩ = false
theorem kept3_none (K : Nat) (w : World) : Kept3 K w false := fun h => by cases h
theorem kept3_new (w : World) (t : TypeId) : Kept3 w.heap.size (w.alloc (.cells #[.int .i64 0, .slice none 0 0, .slice none 0 0] t)) true := fun _ => by
  refine ⟨⟨?_, ?_, ?_⟩, ?_, ?_, ?_⟩ <;> simp [go_sem]
theorem kept3_below {K B : Nat} {w w' : World} {b : Bool} (h : Kept3 K w b) (hb : Below B w w') (hB : B = w.heap.size) : Kept3 K w' b := fun e => by
  subst hB
  obtain ⟨⟨h0, h1, h2⟩, f0, f1, f2⟩ := h e
  exact ⟨⟨(hb.cell (block_lt_of_cell h0)).trans h0, (hb.cell (block_lt_of_cell h1)).trans h1, (hb.cell (block_lt_of_cell h2)).trans h2⟩, (hb.frozen (block_lt_of_cell h0)).trans f0, (hb.frozen (block_lt_of_cell h1)).trans f1, (hb.frozen (block_lt_of_cell h2)).trans f2⟩
theorem set3_below {K A : Nat} {w y : World} {u0 u1 u2 : Value} (hA : A ≤ K) (hb : Below A w y) : Below A w (((y.setCell ⟨K, 0, none⟩ u0).setCell ⟨K, 1, none⟩ u1).setCell ⟨K, 2, none⟩ u2) :=
  ((hb.setCell (p := ⟨K, 0, none⟩) hA _).setCell (p := ⟨K, 1, none⟩) hA _).setCell (p := ⟨K, 2, none⟩) hA _
/-! THE WALK -/
set_option maxHeartbeats 8000000 in
set_option maxRecDepth 100000 in
theorem walk (n : Nat) (w : World) (cs0 : List Value) (x0 : Msg) (h0 : RMsg Great 0 w n cs0 x0) (cs1 : List Value) (x1 : Slot) (h1 : RSlot Great 0 w (RMsg Great 0 w n) cs1 x1) (a2 : Int) (w2 : -9223372036854775808 ≤ a2 ∧ a2 ≤ 9223372036854775807) :
    Calls Try.prog 3 #[.agg cs0.toArray, .agg cs1.toArray, .int .i64 a2] w fun e w' => e = .returned (.bool true) ∧ Below w.heap.size w w' := by
  have hno := w2
  clear w2
  have HA := Lib.hid fun w' => Go.Proofs.Ytogcnodgpgiacaa.awake w'
  have H0 := Lib.hid (RMsg.keep (Nat.le_refl 0) (Keeps.refl 0 w) n (n + 1) (by omega) h0)
  have H1 := Lib.hid h1
  obtain ⟨v0, rfl, o0⟩ := rmsg_one Great 0 n w _ _ h0
  obtain ⟨a0, cap0, rfl⟩ : ∃ a cap, v0 = .slice a x0.f.length cap := by
    obtain ⟨c, e, r⟩ := H0.out
    cases e
    obtain ⟨a, cap, rfl, -⟩ := r
    exact ⟨a, cap, rfl⟩
  obtain ⟨c, d, rfl, hn1, hn2, r1, r2⟩ := h1
  obtain ⟨p1, cap1, rfl, -⟩ := r1
  obtain ⟨p2, cap2, rfl, -⟩ := r2
  clear h0 o0
  go_enter Try.func3, Try.ntmps3
  go_wp2_with fail
  refine (HA.out _).mono ?_; rintro e w1 ⟨rfl, b1⟩
  have Q0 : Hid (Box1 w.heap.size w1 (.slice a0 x0.f.length cap0)) := ((Box1.new w _ 24).below (al1 _ _)).below b1
  have Q1 : Hid (Box3 (w.heap.size + 1) w1 (.int .i64 x1.no) (.slice p1 x1.k.length cap1) (.slice p2 x1.v.length cap2)) := by
    have h := (Box3.new (w.alloc (.cells #[.slice a0 x0.f.length cap0] 24)) (.int .i64 x1.no) (.slice p1 x1.k.length cap1) (.slice p2 x1.v.length cap2) 27).below b1
    rw [show (w.alloc (.cells #[.slice a0 x0.f.length cap0] 24)).heap.size = w.heap.size + 1 by simp] at h
    exact h
  have B1 := Lib.hid (((al1 _ _).nx (al1 _ _)).nx b1)
  clear b1
  obtain ⟨l0, s0⟩ := Q0.out
  obtain ⟨l1, t0, t1, t2⟩ := Q1.out
  go_wp2_with fail
  refine (law_few Great (n + 1) (by decide) _ _ _ (few_args B1.out H0.out H1.out (by decide))).mono ?_; rintro e w2 ⟨⟨b, rfl, hb⟩, b2⟩
  have Q0' : Hid (Box1 w.heap.size w2 _) := ((Q0.out.below (al1 _ _)).below (al1 _ _)).below b2
  have Q1' : Hid (Box3 (w.heap.size + 1) w2 _ _ _) := ((Q1.out.below (al1 _ _)).below (al1 _ _)).below b2
  have B2 := Lib.hid (B1.out.nx (((al1 _ _).nx (al1 _ _)).nx b2))
  clear b2 l0 s0 l1 t0 t1 t2 Q0 Q1 B1
  obtain ⟨l0, s0⟩ := Q0'.out
  obtain ⟨l1, t0, t1, t2⟩ := Q1'.out
  cases b with
  | false =>
    go_wp2_with fail
    exact ⟨rfl, _, results_tmp (t := 6) rfl _ _ _, rfl, B2.out⟩
  | true =>
    have hl0 := hb rfl x0 (by simp)
    have hl1 := hb rfl (.mk [x1]) (by simp)
    clear hb
    have hm0 := size_le_weight hl0
    have M0 := Lib.hid (H0.out.shrink (L' := 10000) (n + 1) (by have := hl0.1; omega))
    have M1 := Lib.hid (RSlot.shrink (L' := 10000) H1.out (by have := hl1.1; omega))
    clear hl0 hl1 H0 H1
    have HG := Lib.hid (get_there x0 x1)
    have HN := Lib.hid (get_gone x0 x1)
    have HO := Lib.hid (get_other x0 x1 a2)
    have HSS := Lib.hid (set_over x0 x1 x1 rfl)
    have hle : (setSlot x0 x1).f.length + 1 ≤ 10000 := by have := set_len x0 x1; omega
    have MA : Hid (∀ w' (hb : Below w2.heap.size w2 w'), Calls Try.prog 12 #[.agg #[.slice a0 x0.f.length cap0], .agg #[.int .i64 x1.no, .slice p1 x1.k.length cap1, .slice p2 x1.v.length cap2]] w' (SetOut n (setSlot x0 x1) w')) :=
      fun w' hb => set_out n w' _ _ _ _ x0 x1 (RMsg.below (B2.out.nx hb) (n + 1) M0.out) (M1.out.below (B2.out.nx hb)) (by omega)
    generalize setSlot x0 x1 = ma at MA HG HN HO HSS hle
    go_wp2_with fail
    refine (MA.out _ (Below.refl _ _)).mono ?_; rintro e w3 ⟨a3, cap3, rfl, r3, b3⟩
    have M3 := Lib.hid (RMsg.keep (Nat.zero_le _) (Keeps.refl _ _) _ _ (Nat.le_refl _) r3)
    have R0 : Hid (Box1 w.heap.size w3 _) := Q0'.out.below b3
    have R1 : Hid (Box3 (w.heap.size + 1) w3 _ _ _) := Q1'.out.below b3
    have B3 := Lib.hid b3
    clear b3 r3 l0 s0 l1 t0 t1 t2 Q0' Q1'
    obtain ⟨l0, s0⟩ := R0.out
    obtain ⟨l1, t0, t1, t2⟩ := R1.out
    go_wp2_with fail
    refine (value_get 10000 n (by omega) x1.no hn1 hn2 _ [_] ma (RMsg.below (al1 _ _) (n + 1) M3.out)).mono ?_; rintro e w4 ⟨ds, rfl, rg, b4⟩
    obtain ⟨g, hg⟩ : ∃ g, g = getSlot ma x1.no := ⟨_, rfl⟩
    rw [← hg] at rg
    have RG := Lib.hid (RSlot.keep (B' := 0) (Nat.zero_le _) (Nat.le_refl n) rg (Keeps.refl _ _))
    obtain ⟨c, d, rfl, -, -, rk, rv⟩ := rg
    obtain ⟨e1, ec1, rfl, -⟩ := rk
    obtain ⟨e2, ec2, rfl, -⟩ := rv
    have HGG := Lib.hid hg
    clear hg
    have S0 : Hid (Box1 w.heap.size w4 _) := (R0.out.below (al1 _ _)).below b4
    have S1 : Hid (Box3 (w.heap.size + 1) w4 _ _ _) := (R1.out.below (al1 _ _)).below b4
    have S9 : Hid (Box1 w3.heap.size w4 _) := (Box1.new w3 _ _).below b4
    have B4 := Lib.hid (B3.out.nx ((al1 _ _).nx b4))
    have M4 := Lib.hid (RMsg.below ((al1 _ _).nx b4) (n + 1) M3.out)
    clear b4 l0 s0 l1 t0 t1 t2 R0 R1
    obtain ⟨l0, s0⟩ := S0.out
    obtain ⟨l1, t0, t1, t2⟩ := S1.out
    obtain ⟨l9, s9⟩ := S9.out
    have HSET : Hid (∀ w' (hb : Below w4.heap.size w4 w'), Calls Try.prog 12 #[.agg #[.slice a3 ma.f.length cap3], .agg #[.int .i64 x1.no, .slice p1 x1.k.length cap1, .slice p2 x1.v.length cap2]] w' (SetOut n ma w')) := fun w' hb => by
      have h := set_out n w' _ _ _ _ ma x1 (RMsg.below hb (n + 1) M4.out) (M1.out.below (B2.out.nx (B4.out.nx hb))) hle
      rw [HSS.out] at h; exact h
    go_upto_region 7 with fail
    go_cut [11, 68] from 35 to 67 (fun _ o wc => o = .bool false ∧ Hid (Below w4.heap.size w4 wc))
    case first =>
      generalize hw5 : w4.alloc (.cells #[.int .i64 g.no, .slice e1 g.k.length ec1, .slice e2 g.v.length ec2] 27) = w5
      have F : Box3 w4.heap.size w5 (.int .i64 g.no) (.slice e1 g.k.length ec1) (.slice e2 g.v.length ec2) := by rw [← hw5]; exact Box3.new _ _ _ _ _
      have b5 : Below w4.heap.size w4 w5 := by rw [← hw5]; exact al1 _ _
      clear hw5
      obtain ⟨l5, c0, c1, c2⟩ := F
      have B5 := Lib.hid b5
      have T1 : Hid (Box3 (w.heap.size + 1) w5 _ _ _) := S1.out.below b5
      have T9 : Hid (Box1 w3.heap.size w5 _) := S9.out.below b5
      have M15 := Lib.hid (M1.out.below (B2.out.nx (B4.out.nx b5)))
      have RG5 := Lib.hid (RG.out.below b5)
      clear b5 l0 s0 l1 t0 t1 t2 l9 s9 S0 S1 S9 RG
      obtain ⟨l1, t0, t1, t2⟩ := T1.out
      obtain ⟨l9, s9⟩ := T9.out
      by_cases hsv : x1.v = []
      · have hlz : x1.v.length = 0 := by rw [hsv]; rfl
        rw [HN.out hsv]
        have HSET0 := HSET
        rw [hlz] at HSET0
        clear HN HG RG5 hsv
        have hs0 := And.intro c0 (And.intro c1 (And.intro c2 (And.intro s9 (And.intro t0 (And.intro t1 t2)))))
        rw [hlz] at hs0
        clear hlz
        refine wp_region_held_drew (S := (fun w' => w'.cell? ⟨w4.heap.size, 0, none⟩ = some (.int .i64 g.no) ∧ w'.cell? ⟨w4.heap.size, 1, none⟩ = some (.slice e1 g.k.length ec1) ∧ w'.cell? ⟨w4.heap.size, 2, none⟩ = some (.slice e2 g.v.length ec2) ∧ w'.cell? ⟨w3.heap.size, 0, none⟩ = some (.slice a3 ma.f.length cap3) ∧ w'.cell? ⟨w.heap.size + 1, 0, none⟩ = some (.int .i64 x1.no) ∧ w'.cell? ⟨w.heap.size + 1, 1, none⟩ = some (.slice p1 x1.k.length cap1) ∧ w'.cell? ⟨w.heap.size + 1, 2, none⟩ = some (.slice p2 0 cap2))) (by kernel_rfl) (keep7 (Below.refl _ _).drew rfl hs0) (fun hHeld => ?_)
        refine wpAnyH_take (i := 0) (oi := { dst := some 42, op := Op.move (Operand.tmp 11), type := 4, pos := "law.go:52", after := #[], guard := none }) (v := ?_) rfl (by kernel_rfl) (by kernel_rfl) (by kernel_rfl) (fun _ _ _ h => h) (Or.inl ⟨by rfl, ?take⟩) (by assumption) ?_
        case take => intro w hSw; (try dsimp only at hSw); go_simp; try with_reducible rfl
        try simp only [Act.put, List.setIfInBounds_toArray, List.set_cons_zero, List.set_cons_succ]
        refine wpAnyH_take (i := 1) (oi := { dst := some 43, op := Op.fieldAddr 27 (Operand.tmp 4) 2, type := 0, pos := "law.go:52", after := #[], guard := none }) (v := ?_) rfl (by kernel_rfl) (by kernel_rfl) (by kernel_rfl) (fun _ _ _ h => h) (Or.inl ⟨by rfl, ?take⟩) (by assumption) ?_
        case take => intro w hSw; (try dsimp only at hSw); go_simp; try with_reducible rfl
        try simp only [Act.put, List.setIfInBounds_toArray, List.set_cons_zero, List.set_cons_succ]
        refine wpAnyH_take (i := 2) (oi := { dst := some 44, op := Op.load 25 (Operand.tmp 43), type := 25, pos := "law.go:52", after := #[{ on := 1, ground := Ground.data }], guard := none }) (v := ?_) rfl (by kernel_rfl) (by kernel_rfl) (by kernel_rfl) (fun _ _ _ h => h) (Or.inl ⟨by rfl, ?take⟩) (by assumption) ?_
        case take => intro w hSw; (try dsimp only at hSw); go_simp; try with_reducible rfl
        try simp only [Act.put, List.setIfInBounds_toArray, List.set_cons_zero, List.set_cons_succ]
        refine wpAnyH_take (i := 3) (oi := { dst := some 45, op := Op.call { callee := Callee.builtin Builtin.len, args := #[Operand.tmp 44], argTypes := #[25] }, type := 3, pos := "law.go:52", after := #[{ on := 2, ground := Ground.data }], guard := none }) (v := ?_) rfl (by kernel_rfl) (by kernel_rfl) (by kernel_rfl) (fun _ _ _ h => h) (Or.inl ⟨by rfl, ?take⟩) (by assumption) ?_
        case take => intro w hSw; (try dsimp only at hSw); go_simp; try with_reducible rfl
        try simp only [Act.put, List.setIfInBounds_toArray, List.set_cons_zero, List.set_cons_succ]
        refine wpAnyH_take (i := 4) (oi := { dst := some 46, op := Op.binOp BinOp.gtr 3 (Operand.tmp 45) (Operand.const (Value.int IntKind.i64 0)) 3, type := 4, pos := "law.go:52", after := #[{ on := 3, ground := Ground.data }], guard := none }) (v := ?_) rfl (by kernel_rfl) (by kernel_rfl) (by kernel_rfl) (fun _ _ _ h => h) (Or.inl ⟨by rfl, ?take⟩) (by assumption) ?_
        case take => intro w hSw; (try dsimp only at hSw); go_simp; try with_reducible rfl
        try simp only [Act.put, List.setIfInBounds_toArray, List.set_cons_zero, List.set_cons_succ]
        refine wpAnyH_take (i := 5) (oi := { dst := some 47, op := Op.binOp BinOp.neq 4 (Operand.tmp 42) (Operand.tmp 46) 4, type := 4, pos := "law.go:52", after := #[{ on := 0, ground := Ground.data }, { on := 4, ground := Ground.data }], guard := none }) (v := ?_) rfl (by kernel_rfl) (by kernel_rfl) (by kernel_rfl) (fun _ _ _ h => h) (Or.inl ⟨by rfl, ?take⟩) (by assumption) ?_
        case take => intro w hSw; (try dsimp only at hSw); go_simp; try with_reducible rfl
        try simp only [Act.put, List.setIfInBounds_toArray, List.set_cons_zero, List.set_cons_succ]
        refine wpAnyH_take (i := 6) (oi := { dst := some 48, op := Op.move (Operand.tmp 47), type := 4, pos := "law.go:52", after := #[{ on := 5, ground := Ground.data }], guard := none }) (v := ?_) rfl (by kernel_rfl) (by kernel_rfl) (by kernel_rfl) (fun _ _ _ h => h) (Or.inl ⟨by rfl, ?take⟩) (by assumption) ?_
        case take => intro w hSw; (try dsimp only at hSw); go_simp; try with_reducible rfl
        try simp only [Act.put, List.setIfInBounds_toArray, List.set_cons_zero, List.set_cons_succ]
        refine wpAnyH_take (i := 7) (oi := { dst := some 49, op := Op.move (Operand.tmp 11), type := 4, pos := "law.go:52", after := #[{ on := 6, ground := Ground.guard }], guard := some (6, false) }) (v := ?_) rfl (by kernel_rfl) (by kernel_rfl) (by kernel_rfl) (fun _ _ _ h => h) (Or.inl ⟨by rfl, ?take⟩) (by assumption) ?_
        case take => intro w hSw; (try dsimp only at hSw); go_simp; try with_reducible rfl
        try simp only [Act.put, List.setIfInBounds_toArray, List.set_cons_zero, List.set_cons_succ]
        refine wpAnyH_take (i := 8) (oi := { dst := some 50, op := Op.move (Operand.tmp 49), type := 4, pos := "law.go:52", after := #[{ on := 7, ground := Ground.data }, { on := 6, ground := Ground.chain }, { on := 6, ground := Ground.guard }], guard := some (6, false) }) (v := ?_) rfl (by kernel_rfl) (by kernel_rfl) (by kernel_rfl) (fun _ _ _ h => h) (Or.inl ⟨by rfl, ?take⟩) (by assumption) ?_
        case take => intro w hSw; (try dsimp only at hSw); go_simp; try with_reducible rfl
        try simp only [Act.put, List.setIfInBounds_toArray, List.set_cons_zero, List.set_cons_succ]
        refine wpAnyH_take (i := 9) (oi := { dst := some 51, op := Op.load 27 (Operand.tmp 10), type := 27, pos := "law.go:52", after := #[{ on := 8, ground := Ground.guard }], guard := some (8, true) }) (v := undef) rfl (by kernel_rfl) (by kernel_rfl) (by kernel_rfl) (fun _ _ _ h => h) (Or.inr ⟨by rfl, rfl⟩) (by assumption) ?_
        try simp only [Act.put, List.setIfInBounds_toArray, List.set_cons_zero, List.set_cons_succ]
        refine wpAnyH_take (i := 10) (oi := { dst := some 52, op := Op.buildSlice 22 1 #[(0, Operand.tmp 51)], type := 22, pos := "law.go:52", after := #[{ on := 9, ground := Ground.data }, { on := 8, ground := Ground.guard }], guard := some (8, true) }) (v := undef) rfl (by kernel_rfl) (by kernel_rfl) (by kernel_rfl) (fun _ _ _ h => h) (Or.inr ⟨by rfl, rfl⟩) (by assumption) ?_
        try simp only [Act.put, List.setIfInBounds_toArray, List.set_cons_zero, List.set_cons_succ]
        refine wpAnyH_take (i := 11) (oi := { dst := some 53, op := Op.build 24 #[(0, Operand.tmp 52)], type := 24, pos := "law.go:52", after := #[{ on := 10, ground := Ground.data }, { on := 8, ground := Ground.guard }], guard := some (8, true) }) (v := undef) rfl (by kernel_rfl) (by kernel_rfl) (by kernel_rfl) (fun _ _ _ h => h) (Or.inr ⟨by rfl, rfl⟩) (by assumption) ?_
        try simp only [Act.put, List.setIfInBounds_toArray, List.set_cons_zero, List.set_cons_succ]
        refine wpAnyH_take (i := 12) (oi := { dst := some 54, op := Op.load 27 (Operand.tmp 4), type := 27, pos := "law.go:52", after := #[{ on := 8, ground := Ground.guard }], guard := some (8, true) }) (v := undef) rfl (by kernel_rfl) (by kernel_rfl) (by kernel_rfl) (fun _ _ _ h => h) (Or.inr ⟨by rfl, rfl⟩) (by assumption) ?_
        try simp only [Act.put, List.setIfInBounds_toArray, List.set_cons_zero, List.set_cons_succ]
        refine wpAnyH_take (i := 13) (oi := { dst := some 55, op := Op.buildSlice 22 1 #[(0, Operand.tmp 54)], type := 22, pos := "law.go:52", after := #[{ on := 12, ground := Ground.data }, { on := 8, ground := Ground.guard }], guard := some (8, true) }) (v := undef) rfl (by kernel_rfl) (by kernel_rfl) (by kernel_rfl) (fun _ _ _ h => h) (Or.inr ⟨by rfl, rfl⟩) (by assumption) ?_
        try simp only [Act.put, List.setIfInBounds_toArray, List.set_cons_zero, List.set_cons_succ]
        refine wpAnyH_take (i := 14) (oi := { dst := some 56, op := Op.build 24 #[(0, Operand.tmp 55)], type := 24, pos := "law.go:52", after := #[{ on := 13, ground := Ground.data }, { on := 8, ground := Ground.guard }], guard := some (8, true) }) (v := undef) rfl (by kernel_rfl) (by kernel_rfl) (by kernel_rfl) (fun _ _ _ h => h) (Or.inr ⟨by rfl, rfl⟩) (by assumption) ?_
        try simp only [Act.put, List.setIfInBounds_toArray, List.set_cons_zero, List.set_cons_succ]
        refine wpAnyH_take (i := 15) (oi := { dst := some 57, op := Op.call { callee := Callee.value (Operand.func 14), args := #[Operand.tmp 53, Operand.tmp 56], argTypes := #[24, 24] }, type := 4, pos := "law.go:52", after := #[{ on := 11, ground := Ground.data }, { on := 14, ground := Ground.data }, { on := 8, ground := Ground.chain }, { on := 8, ground := Ground.guard }], guard := some (8, true) }) (v := undef) rfl (by kernel_rfl) (by kernel_rfl) (by kernel_rfl) (fun _ _ _ h => h) (Or.inr ⟨by rfl, rfl⟩) (by assumption) ?_
        try simp only [Act.put, List.setIfInBounds_toArray, List.set_cons_zero, List.set_cons_succ]
        refine wpAnyH_take (i := 16) (oi := { dst := some 58, op := Op.unOp UnOp.not 4 (Operand.tmp 57), type := 4, pos := "law.go:52", after := #[{ on := 15, ground := Ground.data }, { on := 8, ground := Ground.guard }], guard := some (8, true) }) (v := undef) rfl (by kernel_rfl) (by kernel_rfl) (by kernel_rfl) (fun _ _ _ h => h) (Or.inr ⟨by rfl, rfl⟩) (by assumption) ?_
        try simp only [Act.put, List.setIfInBounds_toArray, List.set_cons_zero, List.set_cons_succ]
        refine wpAnyH_take (i := 17) (oi := { dst := some 59, op := Op.pick (Operand.tmp 50) (Operand.tmp 58) (Operand.const (Value.bool false)), type := 4, pos := "law.go:52", after := #[{ on := 8, ground := Ground.data }, { on := 16, ground := Ground.data }, { on := 6, ground := Ground.guard }], guard := some (6, false) }) (v := ?_) rfl (by kernel_rfl) (by kernel_rfl) (by kernel_rfl) (fun _ _ _ h => h) (Or.inl ⟨by rfl, ?take⟩) (by assumption) ?_
        case take => intro w hSw; (try dsimp only at hSw); go_simp; try with_reducible rfl
        try simp only [Act.put, List.setIfInBounds_toArray, List.set_cons_zero, List.set_cons_succ]
        refine wpAnyH_take (i := 18) (oi := { dst := some 60, op := Op.pick (Operand.tmp 48) (Operand.const (Value.bool true)) (Operand.tmp 59), type := 4, pos := "law.go:52", after := #[{ on := 6, ground := Ground.data }, { on := 17, ground := Ground.data }], guard := none }) (v := ?_) rfl (by kernel_rfl) (by kernel_rfl) (by kernel_rfl) (fun _ _ _ h => h) (Or.inl ⟨by rfl, ?take⟩) (by assumption) ?_
        case take => intro w hSw; (try dsimp only at hSw); go_simp; try with_reducible rfl
        try simp only [Act.put, List.setIfInBounds_toArray, List.set_cons_zero, List.set_cons_succ]
        refine wpAnyH_take (i := 19) (oi := { dst := some 61, op := Op.move (Operand.tmp 60), type := 4, pos := "law.go:52", after := #[{ on := 18, ground := Ground.data }, { on := 15, ground := Ground.chain }], guard := none }) (v := ?_) rfl (by kernel_rfl) (by kernel_rfl) (by kernel_rfl) (fun _ _ _ h => h) (Or.inl ⟨by rfl, ?take⟩) (by assumption) ?_
        case take => intro w hSw; (try dsimp only at hSw); go_simp; try with_reducible rfl
        try simp only [Act.put, List.setIfInBounds_toArray, List.set_cons_zero, List.set_cons_succ]
        refine wpAnyH_take (i := 20) (oi := { dst := some 62, op := Op.load 24 (Operand.tmp 9), type := 24, pos := "law.go:52", after := #[{ on := 19, ground := Ground.guard }], guard := some (19, false) }) (v := ?_) rfl (by kernel_rfl) (by kernel_rfl) (by kernel_rfl) (fun _ _ _ h => h) (Or.inl ⟨by rfl, ?take⟩) (by assumption) ?_
        case take => intro w hSw; (try dsimp only at hSw); go_simp; try with_reducible rfl
        try simp only [Act.put, List.setIfInBounds_toArray, List.set_cons_zero, List.set_cons_succ]
        refine wpAnyH_take (i := 21) (oi := { dst := some 63, op := Op.load 27 (Operand.tmp 4), type := 27, pos := "law.go:52", after := #[{ on := 19, ground := Ground.guard }], guard := some (19, false) }) (v := ?_) rfl (by kernel_rfl) (by kernel_rfl) (by kernel_rfl) (fun _ _ _ h => h) (Or.inl ⟨by rfl, ?take⟩) (by assumption) ?_
        case take => intro w hSw; (try dsimp only at hSw); go_simp; try with_reducible rfl
        try simp only [Act.put, List.setIfInBounds_toArray, List.set_cons_zero, List.set_cons_succ]
        refine wpAnyH_take (i := 23) (oi := { dst := some 65, op := Op.load 24 (Operand.tmp 9), type := 24, pos := "law.go:52", after := #[{ on := 19, ground := Ground.guard }], guard := some (19, false) }) (v := ?_) rfl (by kernel_rfl) (by kernel_rfl) (by kernel_rfl) (fun _ _ _ h => h) (Or.inl ⟨by rfl, ?take⟩) (by assumption) ?_
        case take => intro w hSw; (try dsimp only at hSw); go_simp; try with_reducible rfl
        try simp only [Act.put, List.setIfInBounds_toArray, List.set_cons_zero, List.set_cons_succ]
        refine wpAnyH_ready (rs := [22]) (by kernel_rfl) (by simp) ?_
        refine AllReadyH.cons (o := { dst := some 64, op := Op.call { callee := Callee.value (Operand.func 12), args := #[Operand.tmp 62, Operand.tmp 63], argTypes := #[24, 27] }, type := 24, pos := "law.go:52", after := #[{ on := 20, ground := Ground.data }, { on := 21, ground := Ground.data }, { on := 19, ground := Ground.chain }, { on := 19, ground := Ground.guard }], guard := some (19, false) }) rfl (fun K hK => ?_) AllReadyH.nil
        go_simp
        refine (HSET0.out _ B5.out.drew).mono ?_; rintro e y1 ⟨a7, cap7, rfl, r7, g1⟩
        have D1 := Lib.hid ((Below.refl w5.heap.size w5).drew.nx g1)
        have R7 := Lib.hid (RMsg.keep (Nat.zero_le _) (Keeps.refl _ _) _ _ (Nat.le_refl _) r7)
        clear g1 r7
        go_wp2_with fail
        refine hK.out _ _ (keep7 D1.out rfl hs0) (fun hHeld2 => ?_)
        clear hK K hHeld
        try simp only [Act.put, List.setIfInBounds_toArray, List.set_cons_zero, List.set_cons_succ]
        refine wpAnyH_ready (rs := [24]) (by kernel_rfl) (by simp) ?_
        refine AllReadyH.cons (o := { dst := some 66, op := Op.call { callee := Callee.value (Operand.func 15), args := #[Operand.tmp 64, Operand.tmp 65], argTypes := #[24, 24] }, type := 4, pos := "law.go:52", after := #[{ on := 22, ground := Ground.data }, { on := 23, ground := Ground.data }, { on := 22, ground := Ground.chain }, { on := 19, ground := Ground.guard }], guard := some (19, false) }) rfl (fun K hK => ?_) AllReadyH.nil
        go_simp
        refine (same_one (n := n) _ _ _ _ _ _ R7.out (RMsg.below (B5.out.nx D1.out) (n + 1) M4.out)).mono ?_; rintro e y2 ⟨rfl, g2⟩
        have D2 := Lib.hid (D1.out.nx g2)
        clear g2
        go_wp2_with fail
        refine hK.out _ _ (keep7 D2.out rfl hs0) (fun hHeld => ?_)
        clear hK K hHeld2
        try simp only [Act.put, List.setIfInBounds_toArray, List.set_cons_zero, List.set_cons_succ]
        refine wpAnyH_take (i := 25) (oi := { dst := some 67, op := Op.unOp UnOp.not 4 (Operand.tmp 66), type := 4, pos := "law.go:52", after := #[{ on := 24, ground := Ground.data }, { on := 19, ground := Ground.guard }], guard := some (19, false) }) (v := ?_) rfl (by kernel_rfl) (by kernel_rfl) (by kernel_rfl) (fun _ _ _ h => h) (Or.inl ⟨by rfl, ?take⟩) (by assumption) ?_
        case take => intro w hSw; (try dsimp only at hSw); go_simp; try with_reducible rfl
        try simp only [Act.put, List.setIfInBounds_toArray, List.set_cons_zero, List.set_cons_succ]
        refine wpAnyH_take (i := 26) (oi := { dst := some 68, op := Op.pick (Operand.tmp 61) (Operand.const (Value.bool true)) (Operand.tmp 67), type := 4, pos := "law.go:52", after := #[{ on := 19, ground := Ground.data }, { on := 25, ground := Ground.data }], guard := none }) (v := ?_) rfl (by kernel_rfl) (by kernel_rfl) (by kernel_rfl) (fun _ _ _ h => h) (Or.inl ⟨by rfl, ?take⟩) (by assumption) ?_
        case take => intro w hSw; (try dsimp only at hSw); go_simp; try with_reducible rfl
        try simp only [Act.put, List.setIfInBounds_toArray, List.set_cons_zero, List.set_cons_succ]
        refine wpAnyH_done (by kernel_rfl) ?_ _
        go_wp2_with fail
        go_meet
        exact ⟨rfl, B5.out.nx D2.out⟩
      · have hl00 : 0 < x1.v.length := List.length_pos_iff.2 hsv
        have hgt : decide ((x1.v.length : Int) > 0) = true := by simp; omega
        have hg1 : x1 = g := (HGG.out.trans (HG.out hsv).1).symm
        rw [(HG.out hsv).2]
        clear HN HG HGG hsv
        subst hg1
        have hs0 := And.intro c0 (And.intro c1 (And.intro c2 (And.intro s9 (And.intro t0 (And.intro t1 t2)))))
        have hk := hs0
        go_region_held3 (fun w' => w'.cell? ⟨w4.heap.size, 0, none⟩ = some (.int .i64 x1.no) ∧ w'.cell? ⟨w4.heap.size, 1, none⟩ = some (.slice e1 x1.k.length ec1) ∧ w'.cell? ⟨w4.heap.size, 2, none⟩ = some (.slice e2 x1.v.length ec2) ∧ w'.cell? ⟨w3.heap.size, 0, none⟩ = some (.slice a3 ma.f.length cap3) ∧ w'.cell? ⟨w.heap.size + 1, 0, none⟩ = some (.int .i64 x1.no) ∧ w'.cell? ⟨w.heap.size + 1, 1, none⟩ = some (.slice p1 x1.k.length cap1) ∧ w'.cell? ⟨w.heap.size + 1, 2, none⟩ = some (.slice p2 x1.v.length cap2))
          (first
            | exact hk
            | exact keep7 (al1 _ _) rfl hk
            | exact keep7 (al1 _ _).drew rfl hk
            | exact keep7 ((al1 _ _).nx (al1 _ _)) rfl hk
            | exact keep7 ((al1 _ _).nx (al1 _ _)).drew rfl hk)
          (first
            | (go_at_call 14; (with_reducible refine (ref_two (n := n) (t := 27) (t' := 27) w5 _ _ _ _ _ _ _ _ _ x1 ?_ ?_ ?_ RG5.out M15.out).mono ?_); (exact ((al1 _ _).nx (al1 _ _)).drew); (exact blk1 w5 _ _); (exact blk2 w5 _ _); rintro e y1 ⟨rfl, g1⟩; (have D1 := Lib.hid g1); clear hk; (have hk := keep7 D1.out rfl hs0); clear g1)
            | (go_at_call 14; (with_reducible refine (ref_two (n := n) (t := 27) (t' := 27) w5 _ _ _ _ _ _ _ _ _ x1 ?_ ?_ ?_ RG5.out M15.out).mono ?_); (exact ((al1 _ _).nx (al1 _ _)).drew); (exact blk2 w5 _ _); (exact blk1 w5 _ _); rintro e y1 ⟨rfl, g1⟩; (have D1 := Lib.hid g1); clear hk; (have hk := keep7 D1.out rfl hs0); clear g1)
            | (go_at_call 12; (with_reducible refine (HSET.out _ ?_).mono ?_); (exact B5.out.nx D1.out); rintro e y2 ⟨a7, cap7, rfl, r7, g2⟩; (have D2 := Lib.hid (D1.out.nx g2)); (have R7 := Lib.hid (RMsg.keep (Nat.zero_le _) (Keeps.refl _ _) _ _ (Nat.le_refl _) r7)); clear hk; (have hk := keep7 D2.out rfl hs0); clear g2 r7)
            | (go_at_call 15; (with_reducible refine (same_one (n := n) _ _ _ _ _ _ ?_ ?_).mono ?_); (exact R7.out); (exact RMsg.below (B5.out.nx D2.out) (n + 1) M4.out); rintro e y3 ⟨rfl, g3⟩; (have D3 := Lib.hid (D2.out.nx g3)); clear hk; (have hk := keep7 D3.out rfl hs0); clear g3))
        all_goals (go_wp2_with fail; go_meet)
        all_goals exact ⟨rfl, B5.out.nx D3.out⟩
    case rest =>
      obtain ⟨rfl, b5⟩ := hcut
      have T0 : Hid (Box1 w.heap.size wc _) := S0.out.below b5.out
      have T1 : Hid (Box3 (w.heap.size + 1) wc _ _ _) := S1.out.below b5.out
      have T9 : Hid (Box1 w3.heap.size wc _) := S9.out.below b5.out
      have M5 := Lib.hid (RMsg.below b5.out (n + 1) M4.out)
      have B6 := Lib.hid (B2.out.nx (B4.out.nx b5.out))
      have MZ : Hid (∀ w' (hb : Below wc.heap.size wc w'), Calls Try.prog 12 #[.agg #[.slice a3 ma.f.length cap3], .agg #[.int .i64 x1.no, .slice none 0 0, .slice none 0 0]] w' (SetOut n (.mk (without ma x1.no)) w')) := fun w' hb => by
        have h := set_out n w' _ _ _ _ ma ⟨x1.no, [], []⟩ (RMsg.below hb (n + 1) M5.out) (rslot_no _ _ _ _ _ hn1 hn2) hle
        rw [set_without] at h; exact h
      have HGO := Lib.hid (gone ma x1.no)
      generalize Msg.mk (without ma x1.no) = mz at MZ HGO
      have GZ : Hid (∀ w' a cap, RMsg 10000 0 w' (n + 1) [.slice a mz.f.length cap] mz → Calls Try.prog 13 #[.agg #[.slice a mz.f.length cap], .int .i64 x1.no] w' fun e w'' => ∃ k l1 l2 e1 c1 e2 c2, e = .returned (.tuple #[.agg #[.int .i64 k, .slice e1 l1 c1, .slice e2 l2 c2], .bool false]) ∧ Below w'.heap.size w' w'') := fun w' a cap r =>
        (get_out n w' a cap mz x1.no hn1 hn2 r).mono (by
          rintro e w'' ⟨e1, c1, e2, c2, rfl, -, b⟩
          exact ⟨_, _, _, e1, c1, e2, c2, by rw [HGO.out], b⟩)
      clear l0 s0 l1 t0 t1 t2 l9 s9 S0 S1 S9 M4 HSET HN HG HGG RG MA HSS M3 B3 HGO
      obtain ⟨l0, s0⟩ := T0.out
      obtain ⟨l1, t0, t1, t2⟩ := T1.out
      obtain ⟨l9, s9⟩ := T9.out
      by_cases hne : a2 = x1.no
      · have hq : ((a2 : Int) == x1.no) = true := by simp [hne]
        have HNE := Lib.hid hne
        clear hne
        go_upto_region 14 with fail
        clear hq
        have BZ := Lib.hid (Below.refl wc.heap.size wc)
        have BT := B6
        go_cut [16, 17, 72] from 98 (fun _ q _ wd => q = .bool false ∧ Hid (Below wc.heap.size wc wd))
        case first =>
          have hs0 := And.intro s9 t0
          have hk := hs0
          go_region_held3 (fun w' => w'.cell? ⟨w3.heap.size, 0, none⟩ = some (.slice a3 ma.f.length cap3) ∧ w'.cell? ⟨w.heap.size + 1, 0, none⟩ = some (.int .i64 x1.no))
            (first
              | exact hk
              | exact keep2 (al1 _ _) rfl hk
              | exact keep2 (al1 _ _).drew rfl hk
              | ((with_reducible refine keep2set ?_ ?_ hk) <;> omega))
            (first
              | (go_at_call 12; (with_reducible refine (MZ.out _ ?_).mono ?_); (exact BZ.out.drew); rintro e y1 ⟨a7, cap7, rfl, r7, g1⟩; (have D1 := Lib.hid ((Below.refl wc.heap.size wc).drew.nx g1)); (have R7 := Lib.hid (RMsg.keep (Nat.zero_le _) (Keeps.refl _ _) _ _ (Nat.le_refl _) r7)); (have KB := Lib.hid (kept3_none wc.heap.size y1)); clear hk; (have hk := keep2 D1.out rfl hs0); (have z1 := D1.out.size); clear g1 r7)
              | (go_at_call 12; (with_reducible refine (MZ.out _ ?_).mono ?_); (exact (BZ.out.nx (al1 _ _)).drew); rintro e y1 ⟨a7, cap7, rfl, r7, g1⟩; (have D1 := Lib.hid ((al1 wc _).drew.nx g1)); (have R7 := Lib.hid (RMsg.keep (Nat.zero_le _) (Keeps.refl _ _) _ _ (Nat.le_refl _) r7)); (have KB := Lib.hid (kept3_below (kept3_new wc _) ((Below.refl _ _).drew.nx g1) rfl)); clear hk; (have hk := keep2 D1.out rfl hs0); (have z1 := D1.out.size); clear g1 r7)
              | (go_at_call 13; (guard_hyp KB : Hid (Kept3 wc.heap.size y1 true)); (with_reducible refine (GZ.out _ _ _ R7.out).mono ?_); rintro e y2 ⟨k8, n8, n9, e8, c8, e9, c9, rfl, g2⟩; (have D2 := Lib.hid (D1.out.nx g2)); (obtain ⟨⟨kc0, kc1, kc2⟩, kf0, kf1, kf2⟩ := kept3_below KB.out g2 rfl rfl); clear hk; (have hk := keep2 D2.out rfl hs0); (have z2 := g2.size); clear g2)
              | (go_at_call 13; (with_reducible refine (GZ.out _ _ _ R7.out).mono ?_); rintro e y2 ⟨k8, n8, n9, e8, c8, e9, c9, rfl, g2⟩; (have D2 := Lib.hid (D1.out.nx g2)); clear hk; (have hk := keep2 D2.out rfl hs0); (have z2 := g2.size); clear g2)
              | (go_at_call 13; (with_reducible refine (GZ.out _ _ _ (RMsg.below (al1 _ _) (n + 1) R7.out)).mono ?_); rintro e y2 ⟨k8, n8, n9, e8, c8, e9, c9, rfl, g2⟩; (have D2 := Lib.hid ((D1.out.nx (al1 _ _)).nx g2)); (obtain ⟨⟨kc0, kc1, kc2⟩, kf0, kf1, kf2⟩ := kept3_below (kept3_new y1 _) g2 rfl rfl); clear hk; (have hk := keep2 D2.out rfl hs0); (have z2 := g2.size); clear g2))
          all_goals (go_wp2_with fail; go_meet)
          all_goals (first
            | exact ⟨rfl, D2.out.nx (al1 _ _)⟩
            | exact ⟨rfl, set3_below (Nat.le_refl _) D2.out⟩
            | exact ⟨rfl, set3_below z1 D2.out⟩)
        case rest =>
          obtain ⟨rfl, b9⟩ := hcut
          go_wp2_with fail
          exact ⟨rfl, _, results_tmp (t := 6) rfl _ _ _, rfl, BT.out.nx b9.out⟩
      · have hq : ((a2 : Int) == x1.no) = false := by simp [hne]
        have h9 := HO.out hne
        have HO1 := Lib.hid h9.1
        have HO2 := Lib.hid h9.2
        clear hne h9
        go_wp2_with fail
        refine (get_out n _ _ _ ma a2 hno.1 hno.2 M5.out).mono ?_; rintro e w6 ⟨e3, c3, e4, c4, rfl, r6, b6⟩
        rw [HO1.out] at r6 ⊢
        rw [HO2.out]
        have R6 := Lib.hid r6
        have U0 : Hid (Box1 w.heap.size w6 _) := T0.out.below b6
        have U1 : Hid (Box3 (w.heap.size + 1) w6 _ _ _) := T1.out.below b6
        have U9 : Hid (Box1 w3.heap.size w6 _) := T9.out.below b6
        have B7 := Lib.hid b6
        clear b6 r6 l0 s0 l1 t0 t1 t2 l9 s9
        obtain ⟨l0, s0⟩ := U0.out
        go_wp2_with fail
        refine (get_out n _ _ _ x0 a2 hno.1 hno.2 (RMsg.below (B6.out.nx (B7.out.nx (al1 _ _))) (n + 1) M0.out)).mono ?_; rintro e w7 ⟨e5, c5, e6, c6, rfl, r7, b7⟩
        have R7 := Lib.hid r7
        have R6' := Lib.hid (R6.out.below ((al1 _ _).nx b7))
        have V0 : Hid (Box3 w6.heap.size w7 _ _ _) := (Box3.new w6 _ _ _ _).below b7
        have V1 : Hid (Box3 (w.heap.size + 1) w7 _ _ _) := (U1.out.below (al1 _ _)).below b7
        have V9 : Hid (Box1 w3.heap.size w7 _) := (U9.out.below (al1 _ _)).below b7
        have B8 := Lib.hid (B7.out.nx ((al1 _ _).nx b7))
        clear b7 r7 l0 s0 U0 U1 U9 R6
        generalize getSlot x0 a2 = g2 at *
        generalize hasSlot x0 a2 = q2 at *
        obtain ⟨l12, c12, c13, c14⟩ := V0.out
        have hqq : (q2 != q2) = false := by simp
        go_wp2_with fail
        refine (ref_two (n := n) (t := 27) (t' := 27) (w7.alloc _) _ _ _ _ _ _ _ _ _ g2 ((al1 _ _).nx (al1 _ _)) (blk_s1 _ _ _ _) (blk_s2 _ _ _ _) (R6'.out.below (al1 _ _)) (R7.out.below (al1 _ _))).mono ?_; rintro e wz ⟨rfl, b8⟩
        have V1' : Hid (Box3 (w.heap.size + 1) wz _ _ _) := V1.out.below ((al1 _ _).nx b8)
        have V9' : Hid (Box1 w3.heap.size wz _) := V9.out.below ((al1 _ _).nx b8)
        have B9 := Lib.hid (B8.out.nx ((al1 _ _).nx b8))
        have BT := Lib.hid (B6.out.nx B9.out)
        have MZ0 := MZ
        clear MZ
        have MZ : Hid (∀ w' (hb : Below wz.heap.size wz w'), Calls Try.prog 12 #[.agg #[.slice a3 ma.f.length cap3], .agg #[.int .i64 x1.no, .slice none 0 0, .slice none 0 0]] w' (SetOut n mz w')) := fun w' hb => MZ0.out w' (B9.out.nx hb)
        clear MZ0 V1 V9 b8 l12 c12 c13 c14 V0 R7 R6'
        obtain ⟨l1, t0, t1, t2⟩ := V1'.out
        obtain ⟨l9, s9⟩ := V9'.out
        go_upto_region 14 with fail
        clear hq hqq
        have BZ := Lib.hid (Below.refl wz.heap.size wz)
        go_cut [16, 17, 72, 87, 88, 96, 97] from 98 (fun _ q _ _ _ _ _ wd => q = .bool false ∧ Hid (Below wz.heap.size wz wd))
        case first =>
          have hs0 := And.intro s9 t0
          have hk := hs0
          go_region_held3 (fun w' => w'.cell? ⟨w3.heap.size, 0, none⟩ = some (.slice a3 ma.f.length cap3) ∧ w'.cell? ⟨w.heap.size + 1, 0, none⟩ = some (.int .i64 x1.no))
            (first
              | exact hk
              | exact keep2 (al1 _ _) rfl hk
              | exact keep2 (al1 _ _).drew rfl hk
              | ((with_reducible refine keep2set ?_ ?_ hk) <;> omega))
            (first
              | (go_at_call 12; (with_reducible refine (MZ.out _ ?_).mono ?_); (exact BZ.out.drew); rintro e y1 ⟨a7, cap7, rfl, r7, g1⟩; (have D1 := Lib.hid ((Below.refl wz.heap.size wz).drew.nx g1)); (have R7 := Lib.hid (RMsg.keep (Nat.zero_le _) (Keeps.refl _ _) _ _ (Nat.le_refl _) r7)); (have KB := Lib.hid (kept3_none wz.heap.size y1)); clear hk; (have hk := keep2 D1.out rfl hs0); (have z1 := D1.out.size); clear g1 r7)
              | (go_at_call 12; (with_reducible refine (MZ.out _ ?_).mono ?_); (exact (BZ.out.nx (al1 _ _)).drew); rintro e y1 ⟨a7, cap7, rfl, r7, g1⟩; (have D1 := Lib.hid ((al1 wz _).drew.nx g1)); (have R7 := Lib.hid (RMsg.keep (Nat.zero_le _) (Keeps.refl _ _) _ _ (Nat.le_refl _) r7)); (have KB := Lib.hid (kept3_below (kept3_new wz _) ((Below.refl _ _).drew.nx g1) rfl)); clear hk; (have hk := keep2 D1.out rfl hs0); (have z1 := D1.out.size); clear g1 r7)
              | (go_at_call 13; (guard_hyp KB : Hid (Kept3 wz.heap.size y1 true)); (with_reducible refine (GZ.out _ _ _ R7.out).mono ?_); rintro e y2 ⟨k8, n8, n9, e8, c8, e9, c9, rfl, g2⟩; (have D2 := Lib.hid (D1.out.nx g2)); (obtain ⟨⟨kc0, kc1, kc2⟩, kf0, kf1, kf2⟩ := kept3_below KB.out g2 rfl rfl); clear hk; (have hk := keep2 D2.out rfl hs0); (have z2 := g2.size); clear g2)
              | (go_at_call 13; (with_reducible refine (GZ.out _ _ _ R7.out).mono ?_); rintro e y2 ⟨k8, n8, n9, e8, c8, e9, c9, rfl, g2⟩; (have D2 := Lib.hid (D1.out.nx g2)); clear hk; (have hk := keep2 D2.out rfl hs0); (have z2 := g2.size); clear g2)
              | (go_at_call 13; (with_reducible refine (GZ.out _ _ _ (RMsg.below (al1 _ _) (n + 1) R7.out)).mono ?_); rintro e y2 ⟨k8, n8, n9, e8, c8, e9, c9, rfl, g2⟩; (have D2 := Lib.hid ((D1.out.nx (al1 _ _)).nx g2)); (obtain ⟨⟨kc0, kc1, kc2⟩, kf0, kf1, kf2⟩ := kept3_below (kept3_new y1 _) g2 rfl rfl); clear hk; (have hk := keep2 D2.out rfl hs0); (have z2 := g2.size); clear g2))
          all_goals (go_wp2_with fail; go_meet)
          all_goals (first
            | exact ⟨rfl, D2.out.nx (al1 _ _)⟩
            | exact ⟨rfl, set3_below (Nat.le_refl _) D2.out⟩
            | exact ⟨rfl, set3_below z1 D2.out⟩)
        case rest =>
          obtain ⟨rfl, b9⟩ := hcut
          go_wp2_with fail
          exact ⟨rfl, _, results_tmp (t := 6) rfl _ _ _, rfl, BT.out.nx b9.out⟩

/-! THE ROW -/
set_option maxRecDepth 100000 in
theorem lifted (os : Os) (started : os.Started) (H : Type) (enc : TypeId × Value → H) :
    ReturnsInHanded {} Try.checked os 3 .any (Rows.valueSetsSpec.pre6 enc Try.prog Try.f3 Rows.valueSetsRow.domain false) (Rows.valueSetsSpec.post enc Try.prog Try.f3 false true false false) := by
  refine returnsInHanded_of_change_sized (C := Try.checked) own started (by kernel_rfl) Try.func3
    (ChangeSpec.witness6 (enc := enc) (C := Try.checked) false ⟨#[], #[.agg #[.slice none 0 0], .agg #[.int .i64 0, .slice none 0 0, .slice none 0 0], .int .i64 0], []⟩ 8 (by kernel_rfl) (by kernel_rfl) (by kernel_rfl) (by kernel_rfl)) ?_
  intro W base args ds gs before hval0 hW hcnd hsz0 _
  have hsz : (DataW.weightsEach Try.prog (Try.f3.params.toList ++ Rows.valueSetsSpec.plain.varTypes Try.prog) (ds ++ gs)).all (· ≤ reachBytes) = true := hsz0
  have hval : ∀ (j : Nat) t v, Try.f3.params[j]? = some t → args[j]? = some v → Value.okWide Try.prog W .any base t v := hval0
  have hW' := hW
  obtain ⟨p, q, hA0, hV, rfl, hfz, hnd⟩ := hW
  have hA : DataW.TrodAll enc Try.prog W 0 (fun _ => true) true Try.f3.params.toList args.toList ds p := hA0
  rw [Try.params3] at hA hval hsz
  obtain ⟨v0, vs0, d0, ds0, p0, q0, hargs, rfl, rfl, h0, r0⟩ := trodAll_cons hA
  obtain ⟨v1, vs1, d1, ds1, p1, q1, rfl, rfl, rfl, h1, r1⟩ := trodAll_cons r0
  obtain ⟨v2, vs2, d2, ds2, p2, q2, rfl, rfl, rfl, h2, r2⟩ := trodAll_cons r1
  obtain ⟨rfl, rfl, rfl⟩ := trodAll_nil r2
  obtain rfl : args = #[v0, v1, v2] := by cases args; simp_all
  obtain ⟨rfl, rfl⟩ := trodVars_none hV
  have k0 := h0
  have lt0 : ∀ x ∈ p0, x.block < W.heap.size := by obtain ⟨m, hm⟩ := k0; exact DataW.trod_lt m _ _ _ hm
  have hw0 : ∀ z ∈ d0.weights Try.prog 24, z ≤ reachBytes := fun z hz => by simpa using List.all_eq_true.1 hsz z (DataW.weights_mem_each (j := 0) rfl rfl z hz)
  obtain ⟨c0, rfl, -⟩ := okWide_struct Try.underlying24 (hval 0 24 v0 rfl rfl)
  obtain ⟨fuel0, hf0⟩ := h0
  obtain ⟨x0, g0⟩ : ∃ x, RMsg Great 0 W fuel0 c0.toList x := open_msg fuel0 _ _ hf0 hw0
  have k1 := h1
  have lt1 : ∀ x ∈ p1, x.block < W.heap.size := by obtain ⟨m, hm⟩ := k1; exact DataW.trod_lt m _ _ _ hm
  have hw1 : ∀ z ∈ d1.weights Try.prog 27, z ≤ reachBytes := fun z hz => by simpa using List.all_eq_true.1 hsz z (DataW.weights_mem_each (j := 1) rfl rfl z hz)
  obtain ⟨c1, rfl, -⟩ := okWide_struct Try.underlying27 (hval 1 27 v1 rfl rfl)
  obtain ⟨fuel1, hf1⟩ := h1
  obtain ⟨x1, g1⟩ : ∃ x, RSlot Great 0 W (RMsg Great 0 W fuel1) c1.toList x := open_slot (fun m _ => open_msg m) hf1 hw1
  obtain ⟨a2, rfl, rfl, rfl, w2⟩ := open_int Try.underlying3 (hval 2 3 v2 rfl rfl) h2
  clear hA0 hval0 hsz0 hsz
  refine (walk (fuel0 + fuel1) W c0.toList x0 (RMsg.keep (Nat.le_refl _) (Keeps.refl _ _) _ _ (by omega) g0) c1.toList x1 (g1.keep (Nat.le_refl _) (by omega) (Keeps.refl _ _)) a2 (int_wf w2)).mono fun e W' ⟨he, bel⟩ => ?_
  subst he
  exact ⟨_, rfl, _, _, _, [], _, [], hW', trodAll_mk1 (shut_bool Try.underlying4 _), (trodAll_cons_mk (Below.trod laidOut (by kernel_rfl) (of_decide_eq_true (by kernel_rfl)) k0 bel lt0) (trodAll_cons_mk (Below.trod laidOut (by kernel_rfl) (of_decide_eq_true (by kernel_rfl)) k1 bel lt1) (trodAll_cons_mk (shut_int Try.underlying3 w2) trodAll_mk0))), rfl, bel.frame _, fun h => by cases h⟩

theorem over : Rows.valueSetsRow.holds Try.pinned (OpenSpec.ofChange Rows.valueSetsSpec) :=
  OpenClaim.holds_of_wide 3 Try.f3 rfl rfl rfl rfl rfl rfl rfl ⟨rfl, rfl, rfl, rfl, rfl⟩ rfl rfl rfl rfl rfl (by kernel_rfl) Try.func3 (by kernel_rfl)
    (of_decide_eq_true (by kernel_rfl)) (by unfold Func.isWrapper; first | (rw [if_pos (by decide +kernel)]; kernel_rfl) | (rw [if_neg (by decide +kernel)]; exact ⟨rfl, rfl⟩))
    (fun os started H enc _ => lifted os started H enc)

/-- THE STATEMENT -/
theorem proved : Rows.ValueSetsSaid := over
#print axioms proved
end Go.Proofs.Ytogcnodgpgiacaa.valueSets
