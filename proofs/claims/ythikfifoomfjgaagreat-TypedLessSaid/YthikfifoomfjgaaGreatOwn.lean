/- Contracts of value.Own, value.slot, value.val: the same tree, in new memory. -/
import Derived.Test.YthikfifoomfjgaaGreatEach
import Derived.Deep.RegionWith
namespace Go.Tr
set_option linter.unusedVariables false
theorem rmsg_keepB (L n : Nat) : ∀ B B' w w' cs (x : Msg), B' ≤ B → Keeps B w w' → RMsg L B w n cs x → RMsg L B' w' n cs x := fun _ _ _ _ _ _ hB hw h => RMsg.keep hB hw n n (Nat.le_refl _) h
theorem rval_keepB (L n : Nat) : ∀ B B' w w' cs (x : Val), B' ≤ B → Keeps B w w' → RVal L B w (RMsg L B w n) cs x → RVal L B' w' (RMsg L B' w' n) cs x := fun _ _ _ _ _ _ hB hw h => h.keep hB (Nat.le_refl _) hw
theorem rslot_keepB (L n : Nat) : ∀ B B' w w' cs (x : Slot), B' ≤ B → Keeps B w w' → RSlot L B w (RMsg L B w n) cs x → RSlot L B' w' (RMsg L B' w' n) cs x := fun _ _ _ _ _ _ hB hw h => h.keep hB (Nat.le_refl _) hw
theorem Keeps.set {B : Nat} {w w' : World} (h : Keeps B w w') {p : Addr} (hp : p.block < B) (u : Value) : Keeps B w (w'.setCell p u) := fun q v hq hv => by
  rw [World.cell?_setCell_other _ _ _ _ (fun e => by rw [e] at hp; omega)]
  exact h q v hq hv
theorem grown_set (w : World) (p : Addr) (u : Value) : w.grownBy (w.setCell p u) (some p.block) :=
  ⟨rfl, rfl, rfl, by simp [World.setCell], fun k _ hk => heap_setCell_other w p k u (fun e => hk (by simp [e]))⟩
theorem Made.set {α : Type} {e k B : Nat} {w : World} {R R' : Nat → List Value → α → Prop} {v : Value} {xs : List α} (h : Made e k B w R v xs) {p : Addr} (hp : p.block < B) (u : Value)
    (hR : ∀ g cs x, B < g → R g cs x → R' g cs x) : Made e k B (w.setCell p u) R' v xs := by
  rcases h with h | ⟨g, ys, rfl, ho, hq⟩
  · exact .inl h
  · have hg := ho.lt g rfl
    exact .inr ⟨g, ys, rfl, ho.kept (grown_set w p u) (.inr (by simp [Value.ownBlock]; omega)), hq.imp fun cs x _ h => hR _ _ _ (by omega) h⟩
theorem Made.lower {α : Type} {e k B B' : Nat} {w : World} {R : Nat → List Value → α → Prop} {v : Value} {xs : List α} (h : Made e k B w R v xs) (hB : B' ≤ B) : Made e k B' w R v xs := by
  rcases h with h | ⟨g, ys, rfl, ho, hq⟩
  · exact .inl h
  · refine .inr ⟨g, ys, rfl, ⟨ho.1, ?_⟩, hq⟩
    rcases ho.2 with h | ⟨g', c, cu, h1, h2, h3⟩
    · exact .inl h
    · exact .inr ⟨g', c, cu, h1, by omega, h3⟩
end Go.Tr
namespace Go
theorem results_cell_mid {P : Program} {fn : Func} {p : Tmp} {ty : TypeId} (h : fn.results = #[.cell p ty]) (tmps : Array Value) (w : World) (b o : Nat) (cs : List Value) (d : TypeDesc)
    (hp : tmps.getD p undef = .pointer (some ⟨b, o, none⟩)) (hc : w.rangeAt b o cs)
    (hu : P.underlying ty = some d) (hd : d.isRow = true) (hi : (P.info? ty).map (·.size) = some cs.length) : (results fn tmps).run P w = .ok (.agg cs.toArray) w := by
  have hp' : tmps[p]?.getD undef = .pointer (some ⟨b, o, none⟩) := by simpa using hp
  simp [results, h, hp', asAddr, run_loadVar_mid w b o ty cs d hc hu hd hi]
theorem rangeAt_set3 (w : World) (b o : Nat) (x y z : Value) (h : w.there b o 3) : (((w.setCell ⟨b, o, none⟩ x).setCell ⟨b, o + 1, none⟩ y).setCell ⟨b, o + 2, none⟩ z).rangeAt b o [x, y, z] :=
  World.rangeAt_setCells_same w b o [x, y, z] h
theorem there_set {w : World} {b o n : Nat} (h : w.there b o n) (p : Addr) (u : Value) : (w.setCell p u).there b o n := fun j hj =>
  ⟨World.isSome_setCells p.block [u] p.off w ⟨b, o + j, none⟩ (h j hj).1 |> fun h' => by
    by_cases e : p = ⟨b, o + j, none⟩
    · subst e; exact h'
    · rw [World.cell?_setCell_other _ _ _ _ e]; exact (h j hj).1, by rw [World.frozen?_setCell]; exact (h j hj).2⟩
/-- Two blocks made first: a struct's box of three cells, and a cell of three for the result. -/
def Bx (k0 : Nat) (w : World) (c0 c1 c2 : Value) : Prop :=
  k0 + 2 ≤ w.heap.size ∧ w.cell? ⟨k0, 0, none⟩ = some c0 ∧ w.cell? ⟨k0, 1, none⟩ = some c1 ∧ w.cell? ⟨k0, 2, none⟩ = some c2 ∧ (∀ o, w.frozen? ⟨k0, o, none⟩ = false) ∧
  (w.cell? ⟨k0 + 1, 0, none⟩).isSome = true ∧ (w.cell? ⟨k0 + 1, 1, none⟩).isSome = true ∧ (w.cell? ⟨k0 + 1, 2, none⟩).isSome = true ∧ (∀ o, w.frozen? ⟨k0 + 1, o, none⟩ = false)
theorem Bx.new (w : World) (c0 c1 c2 z0 z1 z2 : Value) (t t' : TypeId) : Bx w.heap.size (((w.alloc (.cells #[c0, c1, c2] t)).alloc (.cells #[z0, z1, z2] t')).drew) c0 c1 c2 := by
  refine ⟨by simp, ?_, ?_, ?_, ?_, ?_, ?_, ?_, ?_⟩ <;> simp [go_sem]
theorem Bx.below {k0 : Nat} {w w' : World} {c0 c1 c2 : Value} (h : Bx k0 w c0 c1 c2) (hb : RowKit.Below w.heap.size w w') : Bx k0 w' c0 c1 c2 := by
  obtain ⟨h0, h1, h2, h3, h4, h5, h6, h7, h8⟩ := h
  have hs := hb.size
  refine ⟨by omega, (hb.cell (p := ⟨k0, 0, none⟩) (by show k0 < _; omega)).trans h1, (hb.cell (p := ⟨k0, 1, none⟩) (by show k0 < _; omega)).trans h2, (hb.cell (p := ⟨k0, 2, none⟩) (by show k0 < _; omega)).trans h3, fun o => (hb.frozen (p := ⟨k0, o, none⟩) (by show k0 < _; omega)).trans (h4 o), ?_, ?_, ?_, fun o => (hb.frozen (p := ⟨k0 + 1, o, none⟩) (by show k0 + 1 < _; omega)).trans (h8 o)⟩
  · rw [hb.cell (p := ⟨k0 + 1, 0, none⟩) (by show k0 + 1 < _; omega)]; exact h5
  · rw [hb.cell (p := ⟨k0 + 1, 1, none⟩) (by show k0 + 1 < _; omega)]; exact h6
  · rw [hb.cell (p := ⟨k0 + 1, 2, none⟩) (by show k0 + 1 < _; omega)]; exact h7
theorem isSome_set {w : World} {q : Addr} (h : (w.cell? q).isSome = true) (p : Addr) (u : Value) : ((w.setCell p u).cell? q).isSome = true := by
  by_cases e : p = q
  · subst e; obtain ⟨x, hx⟩ := Option.isSome_iff_exists.1 h; rw [World.cell?_setCell_same _ _ _ hx]; rfl
  · rw [World.cell?_setCell_other _ _ _ _ e]; exact h
theorem Bx.set1 {k0 : Nat} {w : World} {c0 c1 c2 : Value} (h : Bx k0 w c0 c1 c2) (v : Value) : Bx k0 (w.setCell ⟨k0, 1, none⟩ v) c0 v c2 := by
  obtain ⟨h0, h1, h2, h3, h4, h5, h6, h7, h8⟩ := h
  refine ⟨by simpa [World.setCell] using h0, by rw [World.cell?_setCell_other _ _ _ _ (by simp)]; exact h1, World.cell?_setCell_same _ _ _ h2, by rw [World.cell?_setCell_other _ _ _ _ (by simp)]; exact h3, fun o => by rw [World.frozen?_setCell]; exact h4 o, isSome_set h5 _ _, isSome_set h6 _ _, isSome_set h7 _ _, fun o => by rw [World.frozen?_setCell]; exact h8 o⟩
theorem Bx.set2 {k0 : Nat} {w : World} {c0 c1 c2 : Value} (h : Bx k0 w c0 c1 c2) (v : Value) : Bx k0 (w.setCell ⟨k0, 2, none⟩ v) c0 c1 v := by
  obtain ⟨h0, h1, h2, h3, h4, h5, h6, h7, h8⟩ := h
  refine ⟨by simpa [World.setCell] using h0, by rw [World.cell?_setCell_other _ _ _ _ (by simp)]; exact h1, by rw [World.cell?_setCell_other _ _ _ _ (by simp)]; exact h2, World.cell?_setCell_same _ _ _ h3, fun o => by rw [World.frozen?_setCell]; exact h4 o, isSome_set h5 _ _, isSome_set h6 _ _, isSome_set h7 _ _, fun o => by rw [World.frozen?_setCell]; exact h8 o⟩
theorem Bx.there {k0 : Nat} {w : World} {c0 c1 c2 : Value} (h : Bx k0 w c0 c1 c2) : w.there (k0 + 1) 0 3 := by
  obtain ⟨h0, h1, h2, h3, h4, h5, h6, h7, h8⟩ := h
  exact fun j hj => ⟨by match j, hj with
    | 0, _ => exact h5
    | 1, _ => exact h6
    | 2, _ => exact h7, h8 _⟩
end Go
namespace Go.Proofs.YthikfifoomfjgaaGreat
open Go.RowKit Go.Tr
set_option linter.unusedVariables false
set_option linter.unusedSimpArgs false
section
theorem val_own (L B n : Nat) (hL : L ≤ 1099511627776)
    (hm : ∀ w cs x, RMsg L B w n cs x → Calls Tryz.prog 30 #[.agg cs.toArray] w fun e w' => ∃ ds, e = .returned (.agg ds.toArray) ∧ RMsg L w.heap.size w' n ds x ∧ Below w.heap.size w w')
    (w : World) (cs : List Value) (x : Val) (hx : RVal L B w (RMsg L B w n) cs x) :
    Calls Tryz.prog 87 #[.agg cs.toArray] w fun e w' => ∃ ds, e = .returned (.agg ds.toArray) ∧ RVal L w.heap.size w' (RMsg L w.heap.size w' n) ds x ∧ Below w.heap.size w w' := by
  obtain ⟨c, rfl, h1, h2, h3, h4⟩ := hx
  have HM := Lib.hid fun w' (hb : Below w.heap.size w w') => each_msg L B hL (fun w => RMsg L B w n) (rmsg_stands L B n) (rmsg_one L B n) (fun B w => RMsg L B w n) (rmsg_keepB L n) (fun B => rmsg_one L B n) 30 (enters_of Tryz.func30 (by kernel_rfl) rfl) hm w' c x.m (h4.imp hb fun _ _ _ h => RMsg.below hb n h)
  have hlen := h4.len
  obtain ⟨a1, cap1, rfl, -⟩ := h4
  clear hm
  go_enter Tryz.func87, Tryz.ntmps87
  go_wp2_with (
    go_at_call 115
    refine (HM.out _ (al2 _ _ _)).mono ?_; rintro e w' ⟨v', rfl, hv, b'⟩
    have hr := hv.row (L := L) (B' := w.heap.size + 2) (R' := RMsg L (w.heap.size + 2) w' n) hlen (by unfold maxLen; omega) (by simp) (Keeps.refl _ _) (fun g cs x hg _ h => RMsg.keep (by simp at hg; omega) (Keeps.refl _ _) n n (Nat.le_refl _) h)
    have HR := Lib.hid hr
    obtain ⟨a2, cap2, rfl, -⟩ := hr
    have f0 : ∀ o, w'.frozen? ⟨w.heap.size, o, none⟩ = false := fun o => (b'.frozen (p := ⟨w.heap.size, o, none⟩) (by simp; omega)).trans (by simp [go_sem])
    have f1 : ∀ o, w'.frozen? ⟨w.heap.size + 1, o, none⟩ = false := fun o => (b'.frozen (p := ⟨w.heap.size + 1, o, none⟩) (by simp)).trans (by simp [go_sem])
    have m0 := (b'.cell (p := ⟨w.heap.size, 0, none⟩) (by simp; omega)).trans (show _ = some (Value.int .i64 x.n) by simp [go_sem])
    have m1 := (b'.cell (p := ⟨w.heap.size, 1, none⟩) (by simp; omega)).trans (show _ = some (Value.string x.s) by simp [go_sem])
    have m2 := (b'.cell (p := ⟨w.heap.size, 2, none⟩) (by simp; omega)).trans (show _ = some (Value.slice a1 x.m.length cap1) by simp [go_sem])
    have z0 := (b'.cell (p := ⟨w.heap.size + 1, 0, none⟩) (by simp)).trans (show _ = some (Value.int .i64 0) by simp [go_sem])
    have z1 := (b'.cell (p := ⟨w.heap.size + 1, 1, none⟩) (by simp)).trans (show _ = some (Value.string "".toUTF8) by simp [go_sem]; rfl)
    have z2 := (b'.cell (p := ⟨w.heap.size + 1, 2, none⟩) (by simp)).trans (show _ = some (Value.slice none 0 0) by simp [go_sem])
    have HB := Lib.hid b'
    clear b' hv)
  have kp : Keeps (w.heap.size + 2) w' ((((w'.setCell ⟨w.heap.size, 2, none⟩ (Value.slice a2 x.m.length cap2)).setCell ⟨w.heap.size + 1, 0, none⟩ (Value.int IntKind.i64 x.n)).setCell ⟨w.heap.size + 1, 1, none⟩ (Value.string x.s)).setCell ⟨w.heap.size + 1, 2, none⟩ (Value.slice a2 x.m.length cap2)) :=
    ((((Keeps.refl _ _).set (by simp) _).set (by simp) _).set (by simp) _).set (by simp) _
  have ht : w'.there (w.heap.size + 1) 0 3 := fun j hj => ⟨by match j, hj with
    | 0, _ => rw [z0]; rfl
    | 1, _ => rw [z1]; rfl
    | 2, _ => rw [z2]; rfl, f1 _⟩
  exact bodyPost_ret (v := .agg #[.int .i64 x.n, .string x.s, .slice a2 x.m.length cap2]) (results_cell_mid rfl _ _ (w.heap.size + 1) 0 [_, _, _] _ rfl (rangeAt_set3 _ _ 0 _ _ _ (there_set ht _ _)) Tryz.underlying39 rfl (by kernel_rfl)) rfl ⟨[_, _, _], rfl, ⟨_, rfl, h1, h2, h3, HR.out.gen hlen (by omega) kp fun _ _ _ h => RMsg.keep (by omega) kp n n (Nat.le_refl _) h⟩,
    ((((((al2 _ _ _).nx HB.out).setCell (by simp) _).setCell (by simp) _).setCell (by simp) _).setCell (by simp) _)⟩
theorem msg_own (L B n : Nat) (hL : L ≤ 1099511627776)
    (hs : ∀ w cs x, RSlot L B w (RMsg L B w n) cs x → Calls Tryz.prog 47 #[.agg cs.toArray] w fun e w' => ∃ ds, e = .returned (.agg ds.toArray) ∧ RSlot L w.heap.size w' (RMsg L w.heap.size w' n) ds x ∧ Below w.heap.size w w')
    (w : World) (cs : List Value) (m : Msg) (hx : RMsg L B w (n + 1) cs m) :
    Calls Tryz.prog 30 #[.agg cs.toArray] w fun e w' => ∃ v', e = .returned (.agg #[v']) ∧ Made 35 3 w.heap.size w' (fun b => RSlot L b w' (RMsg L b w' n)) v' m.f ∧ Below w.heap.size w w' := by
  obtain ⟨c, rfl, h4⟩ := hx
  have HM := Lib.hid fun w' (hb : Below w.heap.size w w') => each_slot L B hL (fun w => RSlot L B w (RMsg L B w n)) (rslot_stands L B n) (rslot_three L B n) (fun B w => RSlot L B w (RMsg L B w n)) (rslot_keepB L n) (fun B => rslot_three L B n) 47 (enters_of Tryz.func47 (by kernel_rfl) rfl) hs w' c m.f (h4.imp hb fun _ _ _ h => h.below hb)
  have hlen := h4.len
  obtain ⟨a1, cap1, rfl, -⟩ := h4
  clear hs
  go_enter Tryz.func30, Tryz.ntmps30
  go_wp2_with (
    go_at_call 60
    refine (HM.out _ (al2 _ _ _)).mono ?_; rintro e w' ⟨v', rfl, hv, b'⟩
    have HV := Lib.hid hv
    have hr := hv.row (L := L) (B' := w.heap.size + 2) (R' := RSlot L (w.heap.size + 2) w' (RMsg L (w.heap.size + 2) w' n)) hlen (by unfold maxLen; omega) (by simp) (Keeps.refl _ _) (fun g cs x hg _ h => h.keep (by simp at hg; omega) (Nat.le_refl _) (Keeps.refl _ _))
    obtain ⟨a2, cap2, rfl, -⟩ := hr
    have f1 : ∀ o, w'.frozen? ⟨w.heap.size + 1, o, none⟩ = false := fun o => (b'.frozen (p := ⟨w.heap.size + 1, o, none⟩) (by simp)).trans (by simp [go_sem])
    have z0 := (b'.cell (p := ⟨w.heap.size + 1, 0, none⟩) (by simp)).trans (show _ = some (Value.slice none 0 0) by simp [go_sem])
    have HB := Lib.hid b'
    clear b' hv)
  exact bodyPost_ret (v := .agg #[.slice a2 m.f.length cap2]) (results_cell_mid rfl _ _ (w.heap.size + 1) 0 [_] _ rfl (World.rangeAt_setCells_same w' (w.heap.size + 1) 0 [_] fun j hj => ⟨by match j, hj with
    | 0, _ => rw [z0]; rfl, f1 _⟩) Tryz.underlying28 rfl (by kernel_rfl)) rfl ⟨_, rfl, ((HV.out.lower (B' := w.heap.size + 2) (by simp)).set (by simp) _ fun g cs x hg h => h.keep (Nat.le_refl _) (Nat.le_refl _) ((Keeps.refl _ _).set (by simp; omega) _)).lower (by omega), ((al2 _ _ _).nx HB.out).setCell (by simp) _⟩
set_option maxHeartbeats 1000000 in
theorem slot_own (L B n : Nat) (hL : L ≤ 1099511627776)
    (hm : ∀ w cs x, RMsg L B w n cs x → Calls Tryz.prog 30 #[.agg cs.toArray] w fun e w' => ∃ ds, e = .returned (.agg ds.toArray) ∧ RMsg L w.heap.size w' n ds x ∧ Below w.heap.size w w')
    (w : World) (cs : List Value) (x : Slot) (hx : RSlot L B w (RMsg L B w n) cs x) :
    Calls Tryz.prog 47 #[.agg cs.toArray] w fun e w' => ∃ ds, e = .returned (.agg ds.toArray) ∧ RSlot L w.heap.size w' (RMsg L w.heap.size w' n) ds x ∧ Below w.heap.size w w' := by
  obtain ⟨c, d, rfl, h1, h2, h3, h4⟩ := hx
  have hv := val_own L B n hL hm
  have HK := Lib.hid fun w' (hb : Below w.heap.size w w') => each_val L B hL (fun w => RVal L B w (RMsg L B w n)) (rval_stands L B n) (rval_three L B n) (fun B w => RVal L B w (RMsg L B w n)) (rval_keepB L n) (fun B => rval_three L B n) 87 (enters_of Tryz.func87 (by kernel_rfl) rfl) hv w' c x.k (h3.imp hb fun _ _ _ h => h.below hb)
  have HV := Lib.hid fun w' (hb : Below w.heap.size w w') => each_val L B hL (fun w => RVal L B w (RMsg L B w n)) (rval_stands L B n) (rval_three L B n) (fun B w => RVal L B w (RMsg L B w n)) (rval_keepB L n) (fun B => rval_three L B n) 87 (enters_of Tryz.func87 (by kernel_rfl) rfl) hv w' d x.v (h4.imp hb fun _ _ _ h => h.below hb)
  have hlen := h3.len
  have hlen2 := h4.len
  obtain ⟨a1, cap1, rfl, -⟩ := h3
  obtain ⟨a2, cap2, rfl, -⟩ := h4
  clear hm hv
  have H1 := Lib.hid (fun w' (hb : Below w.heap.size w w') (hz : w.heap.size + 2 ≤ w'.heap.size) => (HK.out w' hb).mono (R' := fun e w2 => ∃ a3 cap3, e = .returned (.slice a3 x.k.length cap3) ∧ RowOf L (w.heap.size + 2) w2 3 (RVal L (w.heap.size + 2) w2 (RMsg L (w.heap.size + 2) w2 n)) (.slice a3 x.k.length cap3) x.k ∧ Below w'.heap.size w' w2) (by
    rintro e w2 ⟨v', rfl, hv, b'⟩
    have hr := hv.row (L := L) (B' := w.heap.size + 2) (R' := RVal L (w.heap.size + 2) w2 (RMsg L (w.heap.size + 2) w2 n)) hlen (by unfold maxLen; omega) hz (Keeps.refl _ _) (fun g cs x hg _ h => h.keep (by omega) (Nat.le_refl _) (Keeps.refl _ _))
    have HR := Lib.hid hr
    obtain ⟨a3, cap3, rfl, -⟩ := hr
    exact ⟨_, _, rfl, HR.out, b'⟩))
  have H2 := Lib.hid (fun w' (hb : Below w.heap.size w w') (hz : w.heap.size + 2 ≤ w'.heap.size) => (HV.out w' hb).mono (R' := fun e w2 => ∃ a3 cap3, e = .returned (.slice a3 x.v.length cap3) ∧ RowOf L (w.heap.size + 2) w2 3 (RVal L (w.heap.size + 2) w2 (RMsg L (w.heap.size + 2) w2 n)) (.slice a3 x.v.length cap3) x.v ∧ Below w'.heap.size w' w2) (by
    rintro e w2 ⟨v', rfl, hv, b'⟩
    have hr := hv.row (L := L) (B' := w.heap.size + 2) (R' := RVal L (w.heap.size + 2) w2 (RMsg L (w.heap.size + 2) w2 n)) hlen2 (by unfold maxLen; omega) hz (Keeps.refl _ _) (fun g cs x hg _ h => h.keep (by omega) (Nat.le_refl _) (Keeps.refl _ _))
    have HR := Lib.hid hr
    obtain ⟨a3, cap3, rfl, -⟩ := hr
    exact ⟨_, _, rfl, HR.out, b'⟩))
  clear HK HV
  go_enter Tryz.func47, Tryz.ntmps47
  go_upto_region 1 with fail
  go_cut [] from 3 to 10 (fun wc => Hid (Below w.heap.size w wc) ∧ ∃ a3 cap3 a4 cap4, Bx w.heap.size wc (.int .i64 x.no) (.slice a3 x.k.length cap3) (.slice a4 x.v.length cap4) ∧
    Hid (RowOf L (w.heap.size + 2) wc 3 (RVal L (w.heap.size + 2) wc (RMsg L (w.heap.size + 2) wc n)) (.slice a3 x.k.length cap3) x.k) ∧ Hid (RowOf L (w.heap.size + 2) wc 3 (RVal L (w.heap.size + 2) wc (RMsg L (w.heap.size + 2) wc n)) (.slice a4 x.v.length cap4) x.v))
  case first =>
    have BX := Lib.hid (Bx.new w (.int .i64 x.no) (.slice a1 x.k.length cap1) (.slice a2 x.v.length cap2) (.int .i64 0) (.slice none 0 0) (.slice none 0 0) 35 35)
    go_region_with (first
      | (go_at_call 86; (with_reducible refine (H1.out _ ?_ ?_).mono ?_); exact (al2 _ _ _).drew; (simp); rintro e w1 ⟨a3, cap3, rfl, r1, b1⟩;
          (have R1 := Lib.hid r1); clear r1;
          (have B1 := Lib.hid ((al2 w (.cells #[.int .i64 x.no, .slice a1 x.k.length cap1, .slice a2 x.v.length cap2] 35) (.cells #[.int .i64 0, .slice none 0 0, .slice none 0 0] 35)).drew.nx b1));
          (have BX1 := Lib.hid (BX.out.below b1)); (obtain ⟨s1, m0, m1, m2, f0, q0, q1, q2, f1⟩ := BX1.out); clear b1 BX)
      | (go_at_call 86; (with_reducible refine (H2.out w1 ?_ ?_).mono ?_); exact B1.out; exact s1; rintro e w2 ⟨a4, cap4, rfl, r2, b2⟩;
          (have R2 := Lib.hid r2); clear r2;
          (have R1' := Lib.hid (R1.out.gen hlen (Nat.le_refl _) (.of_below b2) fun _ _ _ h => h.below b2)); clear R1; (have R1 := R1'); clear R1';
          (have B2 := Lib.hid (B1.out.nx b2));
          (have BX2 := Lib.hid (BX1.out.below b2)); clear s1 m0 m1 m2 f0 q0 q1 q2 f1 BX1; (obtain ⟨s1, m0, m1, m2, f0, q0, q1, q2, f1⟩ := BX2.out); clear b2)
      | (go_at_call 86; (with_reducible refine (H2.out _ ?_ ?_).mono ?_); exact B1.out.setCell (by simp) _; (simpa [World.setCell] using s1); rintro e w2 ⟨a4, cap4, rfl, r2, b2⟩;
          (have R2 := Lib.hid r2); clear r2;
          (have kp := ((Keeps.refl (w.heap.size + 2) w1).set (p := ⟨w.heap.size, 1, none⟩) (by simp) (.slice a3 x.k.length cap3)).trans (.of_below b2));
          (have R1' := Lib.hid (R1.out.gen hlen (Nat.le_refl _) kp fun _ _ _ h => h.keep (Nat.le_refl _) (Nat.le_refl _) kp)); clear R1 kp; (have R1 := R1'); clear R1';
          (have B2 := Lib.hid ((B1.out.setCell (p := ⟨w.heap.size, 1, none⟩) (by simp) (.slice a3 x.k.length cap3)).nx b2));
          (have BX2 := Lib.hid ((BX1.out.set1 (.slice a3 x.k.length cap3)).below b2)); clear s1 m0 m1 m2 f0 q0 q1 q2 f1 BX1; (obtain ⟨s1, m0, m1, m2, f0, q0, q1, q2, f1⟩ := BX2.out); clear b2))
    all_goals (go_wp2_with fail; go_meet)
    all_goals (first
      | (refine ⟨(B2.out.setCell (by simp) _).setCell (by simp) _, _, _, _, _, (BX2.out.set1 _).set2 _, ?_, ?_⟩
         · have kp := ((Keeps.refl (w.heap.size + 2) w2).set (p := ⟨w.heap.size, 1, none⟩) (by simp) (.slice a3 x.k.length cap3)).set (p := ⟨w.heap.size, 2, none⟩) (by simp) (.slice a4 x.v.length cap4)
           exact R1.out.gen hlen (Nat.le_refl _) kp fun _ _ _ h => h.keep (Nat.le_refl _) (Nat.le_refl _) kp
         · have kp := ((Keeps.refl (w.heap.size + 2) w2).set (p := ⟨w.heap.size, 1, none⟩) (by simp) (.slice a3 x.k.length cap3)).set (p := ⟨w.heap.size, 2, none⟩) (by simp) (.slice a4 x.v.length cap4)
           exact R2.out.gen hlen2 (Nat.le_refl _) kp fun _ _ _ h => h.keep (Nat.le_refl _) (Nat.le_refl _) kp)
      | (refine ⟨B2.out.setCell (by simp) _, _, _, _, _, BX2.out.set2 _, ?_, ?_⟩
         · have kp := (Keeps.refl (w.heap.size + 2) w2).set (p := ⟨w.heap.size, 2, none⟩) (by simp) (.slice a4 x.v.length cap4)
           exact R1.out.gen hlen (Nat.le_refl _) kp fun _ _ _ h => h.keep (Nat.le_refl _) (Nat.le_refl _) kp
         · have kp := (Keeps.refl (w.heap.size + 2) w2).set (p := ⟨w.heap.size, 2, none⟩) (by simp) (.slice a4 x.v.length cap4)
           exact R2.out.gen hlen2 (Nat.le_refl _) kp fun _ _ _ h => h.keep (Nat.le_refl _) (Nat.le_refl _) kp))
  case rest =>
    obtain ⟨BC, a3, cap3, a4, cap4, bx, RK, RV⟩ := hcut
    have BX := Lib.hid bx
    obtain ⟨s1, m0, m1, m2, f0, q0, q1, q2, f1⟩ := bx
    obtain ⟨x0, z0⟩ := Option.isSome_iff_exists.1 q0
    obtain ⟨x1, z1⟩ := Option.isSome_iff_exists.1 q1
    obtain ⟨x2, z2⟩ := Option.isSome_iff_exists.1 q2
    clear q0 q1 q2
    go_wp2
    have kp : Keeps (w.heap.size + 2) wc (((wc.setCell ⟨w.heap.size + 1, 0, none⟩ (Value.int IntKind.i64 x.no)).setCell ⟨w.heap.size + 1, 1, none⟩ (Value.slice a3 x.k.length cap3)).setCell ⟨w.heap.size + 1, 2, none⟩ (Value.slice a4 x.v.length cap4)) :=
      (((Keeps.refl _ _).set (by simp) _).set (by simp) _).set (by simp) _
    exact bodyPost_ret (v := .agg #[.int .i64 x.no, .slice a3 x.k.length cap3, .slice a4 x.v.length cap4]) (results_cell_mid rfl _ _ (w.heap.size + 1) 0 [_, _, _] _ rfl (rangeAt_set3 _ _ 0 _ _ _ BX.out.there) Tryz.underlying35 rfl (by kernel_rfl)) rfl
      ⟨[_, _, _], rfl, ⟨_, _, rfl, h1, h2, RK.out.gen hlen (by omega) kp fun _ _ _ h => h.keep (by omega) (Nat.le_refl _) kp, RV.out.gen hlen2 (by omega) kp fun _ _ _ h => h.keep (by omega) (Nat.le_refl _) kp⟩,
      ((BC.out.setCell (by simp) _).setCell (by simp) _).setCell (by simp) _⟩
/-- value.Own. -/
theorem value_own (L B : Nat) (hL : L ≤ 1099511627776) : ∀ (n : Nat) (w : World) (cs : List Value) (m : Msg), RMsg L B w n cs m →
    Calls Tryz.prog 30 #[.agg cs.toArray] w fun e w' => ∃ ds, e = .returned (.agg ds.toArray) ∧ RMsg L w.heap.size w' n ds m ∧ Below w.heap.size w w'
  | 0, _, _, _, h => h.elim
  | n + 1, w, cs, m, h => by
    have hl : m.f.length ≤ L := by obtain ⟨c, rfl, h⟩ := h; exact h.len
    refine (msg_own L B n hL (slot_own L B n hL (value_own L B hL n)) w cs m h).mono ?_
    rintro e w' ⟨v', rfl, hv, b⟩
    exact ⟨[v'], rfl, ⟨v', rfl, hv.row hl (by unfold maxLen; omega) (Nat.le_refl _) (Keeps.refl _ _) fun g cs x hg _ h => h.keep (by omega) (Nat.le_refl _) (Keeps.refl _ _)⟩, b⟩
/-- value.slot. -/
theorem value_slot (L B n : Nat) (hL : L ≤ 1099511627776) (w : World) (cs : List Value) (x : Slot) (hx : RSlot L B w (RMsg L B w n) cs x) :
    Calls Tryz.prog 47 #[.agg cs.toArray] w fun e w' => ∃ ds, e = .returned (.agg ds.toArray) ∧ RSlot L w.heap.size w' (RMsg L w.heap.size w' n) ds x ∧ Below w.heap.size w w' :=
  slot_own L B n hL (value_own L B hL n) w cs x hx
/-- value.Own, with its row. -/
theorem value_own_row (L B n : Nat) (hL : L ≤ 1099511627776) (w : World) (cs : List Value) (m : Msg) (hx : RMsg L B w (n + 1) cs m) :
    Calls Tryz.prog 30 #[.agg cs.toArray] w fun e w' => ∃ v', e = .returned (.agg #[v']) ∧ Made 35 3 w.heap.size w' (fun b => RSlot L b w' (RMsg L b w' n)) v' m.f ∧ Below w.heap.size w w' :=
  msg_own L B n hL (slot_own L B n hL (value_own L B hL n)) w cs m hx
end
end Go.Proofs.YthikfifoomfjgaaGreat
