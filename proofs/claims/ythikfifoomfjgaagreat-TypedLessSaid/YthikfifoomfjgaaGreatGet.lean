/- Contracts of value.Get and of the functions that value.Get and value.Set hand on. -/
import Derived.Test.YthikfifoomfjgaaGreatFunc
import Derived.Test.YthikfifoomfjgaaGreatOwn
namespace Go.Tr
open Go
theorem results_cell_slot {P : Program} {fn : Func} {p q : Tmp} {ty : TypeId} (h : fn.results = #[.cell p ty, .tmp q]) (tmps : Array Value) (w : World) (b o : Nat) (cs : List Value) (d : TypeDesc) (v : Value)
    (hp : tmps.getD p undef = .pointer (some ⟨b, o, none⟩)) (hq : tmps.getD q undef = v) (hc : w.rangeAt b o cs)
    (hu : P.underlying ty = some d) (hd : d.isRow = true) (hi : (P.info? ty).map (·.size) = some cs.length) : (results fn tmps).run P w = .ok (.tuple #[.agg cs.toArray, v]) w := by
  have hp' : tmps[p]?.getD undef = .pointer (some ⟨b, o, none⟩) := by simpa using hp
  have hq' : tmps[q]?.getD undef = v := by simpa using hq
  simp [results, h, hp', hq', asAddr, run_loadVar_mid w b o ty cs d hc hu hd hi]
def Slot.zeroCells : List Value := [.int .i64 0, .slice none 0 0, .slice none 0 0]
end Go.Tr
namespace Go.Proofs.YthikfifoomfjgaaGreat
open Go.RowKit Go.Tr
set_option linter.unusedVariables false
set_option linter.unusedSimpArgs false
/-- A cell that holds a number. -/
def IntAt (b : Nat) (x : Int) (w : World) : Prop := w.cell? ⟨b, 0, none⟩ = some (.int .i64 x)
theorem intAt_below (b : Nat) (x : Int) (w w' : World) (h : IntAt b x w) (hb : Below w.heap.size w w') : IntAt b x w' := (hb.cell (block_lt_of_cell (a := ⟨b, 0, none⟩) h)).trans h
def isNo (no : Int) (s : Slot) : Bool := decide (s.no = no)
def overNo (no : Int) (s : Slot) : Bool := decide (s.no > no)
theorem get_1 (L B n b : Nat) (no : Int) (w : World) (cs : List Value) (x : Slot) (hok : IntAt b no w) (hx : RSlot L B w (RMsg L B w n) cs x) :
    Calls Tryz.prog 46 (#[.agg cs.toArray] ++ #[.pointer (some ⟨b, 0, none⟩)]) w fun e w' => e = .returned (.bool (isNo no x)) ∧ Below w.heap.size w w' := by
  obtain ⟨c, d, rfl, h1, h2, -, -⟩ := hx
  have hc := hok
  unfold IntAt at hc
  have bl := block_lt_of_cell hc
  clear hok
  show Calls Tryz.prog 46 #[.agg #[.int .i64 x.no, c, d], .pointer (some ⟨b, 0, none⟩)] w _
  go_enter Tryz.func46, Tryz.ntmps46
  go_wp2
  exact ⟨rfl, _, results_tmp (t := 3) rfl _ _ _, rfl, al1 _ _⟩
/-- What value.Get tells. -/
def getSlot (m : Msg) (no : Int) : Slot := (m.f.find? (isNo no)).getD ⟨0, [], []⟩
def hasSlot (m : Msg) (no : Int) : Bool := m.f.any (isNo no)
theorem rslot_zero (L B : Nat) (w : World) (R : List Value → Msg → Prop) : RSlot L B w R [.int .i64 0, .slice none 0 0, .slice none 0 0] ⟨0, [], []⟩ :=
  ⟨_, _, rfl, by decide, by decide, ⟨none, 0, rfl, by simp, by simp, by simp, by simp, by simp⟩, ⟨none, 0, rfl, by simp, by simp, by simp, by simp, by simp⟩⟩
theorem get_none {m : Msg} {no : Int} (h : ∀ j (hj : j < m.f.length), isNo no m.f[j] = false) : getSlot m no = ⟨0, [], []⟩ ∧ hasSlot m no = false := by
  have h' : ∀ x ∈ m.f, isNo no x = false := fun x hx => by obtain ⟨j, hj, rfl⟩ := List.mem_iff_getElem.1 hx; exact h j hj
  refine ⟨?_, ?_⟩
  · unfold getSlot; rw [List.find?_eq_none.2 fun x hx => by simp [h' x hx]]; rfl
  · unfold hasSlot; rw [List.any_eq_false]; exact fun x hx => by simp [h' x hx]
theorem get_some {m : Msg} {no : Int} {k : Nat} (hk : k < m.f.length) (h : isNo no m.f[k] = true) (hb : ∀ j (hj : j < m.f.length), j < k → isNo no m.f[j] = false) : getSlot m no = m.f[k] ∧ hasSlot m no = true := by
  refine ⟨?_, ?_⟩
  · unfold getSlot
    rw [List.find?_eq_some_iff_getElem.2 ⟨h, k, hk, rfl, fun j hj => by simp [hb j (by omega) hj]⟩]; rfl
  · unfold hasSlot; rw [List.any_eq_true]; exact ⟨_, List.getElem_mem hk, h⟩
section
attribute [local go_sem] run_store
set_option maxHeartbeats 2000000 in
theorem value_get (L n : Nat) (hL : L ≤ 1048576) (no : Int) (hn1 : -9223372036854775808 ≤ no) (hn2 : no ≤ 9223372036854775807) (w : World) (cs : List Value) (m : Msg) (hx : RMsg L 0 w (n + 1) cs m) :
    Calls Tryz.prog 23 #[.agg cs.toArray, .int .i64 no] w fun e w' => ∃ ds, e = .returned (.tuple #[.agg ds.toArray, .bool (hasSlot m no)]) ∧ RSlot L w.heap.size w' (RMsg L w.heap.size w' n) ds (getSlot m no) ∧ Below w.heap.size w w' := by
  obtain ⟨c, rfl, h4⟩ := hx
  have H4 := Lib.hid h4
  have HI := Lib.hid fun w' (hb : Below w.heap.size w w') b (hi : IntAt b no w') => indexFunc_slot L 0 (by unfold maxLen; omega) (fun w => RSlot L 0 w (RMsg L 0 w n)) (rslot_stands L 0 n) (rslot_three L 0 n) (isNo no) 46 #[.pointer (some ⟨b, 0, none⟩)] (enters_of Tryz.func46 (by kernel_rfl) rfl)
    (IntAt b no) (intAt_below b no) (fun w cs x => get_1 L 0 n b no w cs x) w' c m.f (h4.imp hb fun _ _ _ h => h.below hb) hi
  have hlen := h4.len
  obtain ⟨a1, cap1, rfl, q0, q1, q2, -, -⟩ := h4
  unfold maxLen at q2
  rcases idxOf_cases (isNo no) m.f with ⟨hi, hall⟩ | ⟨k, hk, hi, hp, hb⟩
  · have HS := Lib.hid (get_none hall)
    rw [hi] at HI
    clear hi hall
    go_enter Tryz.func23, Tryz.ntmps23
    go_wp2_with (
      go_at_call 45
      refine (HI.out _ (((al1 _ _).nx (al1 _ _)).nx (al1 _ _)) (w.heap.size + 1) (by unfold IntAt; simp [go_sem])).mono ?_; rintro e w' ⟨rfl, b'⟩
      have f1 : ∀ o, w'.frozen? ⟨w.heap.size + 2, o, none⟩ = false := fun o => (b'.frozen (p := ⟨w.heap.size + 2, o, none⟩) (by simp)).trans (by simp [go_sem])
      have z0 := (b'.cell (p := ⟨w.heap.size + 2, 0, none⟩) (by simp)).trans (show _ = some (Value.int .i64 0) by simp [go_sem])
      have z1 := (b'.cell (p := ⟨w.heap.size + 2, 1, none⟩) (by simp)).trans (show _ = some (Value.slice none 0 0) by simp [go_sem])
      have z2 := (b'.cell (p := ⟨w.heap.size + 2, 2, none⟩) (by simp)).trans (show _ = some (Value.slice none 0 0) by simp [go_sem])
      have HB := Lib.hid b'
      clear b')
    have ht : w'.there (w.heap.size + 2) 0 3 := fun j hj => ⟨by match j, hj with
      | 0, _ => rw [z0]; rfl
      | 1, _ => rw [z1]; rfl
      | 2, _ => rw [z2]; rfl, f1 _⟩
    refine bodyPost_ret (v := .tuple #[.agg #[.int .i64 0, .slice none 0 0, .slice none 0 0], .bool false]) (results_cell_slot rfl _ _ (w.heap.size + 2) 0 [_, _, _] _ _ rfl rfl (rangeAt_set3 _ _ 0 _ _ _ ht) Tryz.underlying35 rfl (by kernel_rfl)) rfl ⟨[_, _, _], by rw [HS.out.2], by rw [HS.out.1]; exact rslot_zero _ _ _ _, ?_⟩
    exact ((((((al1 _ _).nx (al1 _ _)).nx (al1 _ _)).nx HB.out).setCell (p := ⟨w.heap.size + 2, 0, none⟩) (by simp) _).setCell (p := ⟨w.heap.size + 2, 1, none⟩) (by simp) _).setCell (p := ⟨w.heap.size + 2, 2, none⟩) (by simp) _
  · have HS := Lib.hid (get_some hk hp hb)
    rw [hi] at HI
    clear hi hp hb
    go_enter Tryz.func23, Tryz.ntmps23
    have hge : decide ((k : Int) < 0) = false := by simp
    have hk0 : (0 : Int) ≤ (k : Int) := by omega
    go_wp2_with (
      go_at_call 45
      refine (HI.out _ (((al1 _ _).nx (al1 _ _)).nx (al1 _ _)) (w.heap.size + 1) (by unfold IntAt; simp [go_sem])).mono ?_; rintro e w' ⟨rfl, b'⟩
      have f1 : ∀ o, w'.frozen? ⟨w.heap.size + 2, o, none⟩ = false := fun o => (b'.frozen (p := ⟨w.heap.size + 2, o, none⟩) (by simp)).trans (by simp [go_sem])
      have m0 := (b'.cell (p := ⟨w.heap.size, 0, none⟩) (by simp; omega)).trans (show _ = some (Value.slice a1 m.f.length cap1) by simp [go_sem])
      have z0 := (b'.cell (p := ⟨w.heap.size + 2, 0, none⟩) (by simp)).trans (show _ = some (Value.int .i64 0) by simp [go_sem])
      have z1 := (b'.cell (p := ⟨w.heap.size + 2, 1, none⟩) (by simp)).trans (show _ = some (Value.slice none 0 0) by simp [go_sem])
      have z2 := (b'.cell (p := ⟨w.heap.size + 2, 2, none⟩) (by simp)).trans (show _ = some (Value.slice none 0 0) by simp [go_sem])
      have HB := Lib.hid ((((al1 _ _).nx (al1 _ _)).nx (al1 _ _)).nx b')
      obtain ⟨bx, ox, c0, c1, c2, e1, -, p0, p1, p2, n0, n1, n2, rx⟩ := (H4.out.imp (R' := RSlot L 0 w' (RMsg L 0 w' n)) HB.out fun _ _ _ h => h.below HB.out).get3 (rslot_three L 0 n) k hk
      cases e1
      have HV := Lib.hid fun w2 (hb : Below w'.heap.size w' w2) => value_slot L 0 n (by omega) w2 _ _ (rx.below hb)
      have bl := block_lt_of_cell p0
      clear b' rx)
    go_wp2_with (
      go_at_call 47
      refine (HV.out _ (Below.refl _ _)).mono ?_; rintro e w2 ⟨ds, rfl, rd, b2⟩
      obtain ⟨d0, d1, d2, rfl, o0, o1, o2⟩ := rslot_three L w'.heap.size n _ _ _ rd
      have hzz : w.heap.size + 2 < w'.heap.size := block_lt_of_cell z0
      have g1 : ∀ o, w2.frozen? ⟨w.heap.size + 2, o, none⟩ = false := fun o => (b2.frozen (p := ⟨w.heap.size + 2, o, none⟩) hzz).trans (f1 o)
      have y0 := (b2.cell (p := ⟨w.heap.size + 2, 0, none⟩) hzz).trans z0
      have y1 := (b2.cell (p := ⟨w.heap.size + 2, 1, none⟩) hzz).trans z1
      have y2 := (b2.cell (p := ⟨w.heap.size + 2, 2, none⟩) hzz).trans z2
      have HB2 := Lib.hid (HB.out.nx b2)
      have RD := Lib.hid rd
      clear z0 z1 z2 f1 b2 rd HB)
    have ht : w2.there (w.heap.size + 2) 0 3 := fun j hj => ⟨by match j, hj with
      | 0, _ => rw [y0]; rfl
      | 1, _ => rw [y1]; rfl
      | 2, _ => rw [y2]; rfl, g1 _⟩
    have kp : Keeps w'.heap.size w2 (((w2.setCell ⟨w.heap.size + 2, 0, none⟩ d0).setCell ⟨w.heap.size + 2, 1, none⟩ d1).setCell ⟨w.heap.size + 2, 2, none⟩ d2) := (((Keeps.refl _ _).set hzz _).set hzz _).set hzz _
    refine bodyPost_ret (v := .tuple #[.agg #[d0, d1, d2], .bool true]) (results_cell_slot rfl _ _ (w.heap.size + 2) 0 [_, _, _] _ _ rfl rfl (rangeAt_set3 _ _ 0 _ _ _ ht) Tryz.underlying35 rfl (by kernel_rfl)) rfl ⟨[_, _, _], by rw [HS.out.2], by rw [HS.out.1]; exact RSlot.keep (by omega) (Nat.le_refl _) RD.out kp, ?_⟩
    exact ((HB2.out.setCell (p := ⟨w.heap.size + 2, 0, none⟩) (by simp) _).setCell (p := ⟨w.heap.size + 2, 1, none⟩) (by simp) _).setCell (p := ⟨w.heap.size + 2, 2, none⟩) (by simp) _
end
end Go.Proofs.YthikfifoomfjgaaGreat
