/- Contracts of truffleref09.count and truffleref09.Few: what is few is small in all its parts. Contracts of truffleref09.count and truffleref09.Few. -/
import Derived.Test.YthikfifoomfjgaaGreatRefDeep
namespace Go.Tr
set_option linter.unusedVariables false
set_option linter.unusedSimpArgs false
/-- How many slots, values and messages. -/
def Msg.weight (m : Msg) : Nat := m.f.length + m.vals.length + m.subs.length + (m.subs.attach.map fun x => x.1.weight).sum
termination_by SizeOf.sizeOf m
decreasing_by exact Msg.subs_lt x.2
def weights (l : List Msg) : Nat := (l.map Msg.weight).sum
theorem Msg.weight_eq (m : Msg) : m.weight = m.f.length + m.vals.length + m.subs.length + weights m.subs := by
  rw [Msg.weight]
  congr 2
  simp
theorem weights_app (l r : List Msg) : weights (l ++ r) = weights l + weights r := by simp [weights]
theorem weights_one (x : Msg) : weights [x] = x.weight := by simp [weights]
/-- What count tells of a message's part: so many slots, values, messages in them, and those that were looked at. -/
def acc (f v s : Nat) (S : List Msg) : Nat := f + v + s + weights S
theorem weights_mem {l : List Msg} {x : Msg} (h : x ∈ l) : x.weight ≤ weights l := by
  unfold weights
  induction l with
  | nil => simp at h
  | cons y l ih =>
    rcases List.mem_cons.1 h with rfl | h
    · simp
    · have := ih h; simp; omega
def flatLen (l : List Val) : Nat := (subsOf l).length
theorem deep_of (m : Msg) (d : Int) (h : ∀ x ∈ m.subs, (x.deep : Int) ≤ d - 1) (hd : 1 ≤ d) : (m.deep : Int) ≤ d := by
  have : most m.subs ≤ (d - 1).toNat := most_le fun x hx => by have := h x hx; omega
  rw [Msg.deep_eq]
  unfold most at this
  omega
/-- What is light is small in all its parts. -/
theorem weight_size (m : Msg) : m.size ≤ m.weight := by
  rw [Msg.size_eq, Msg.weight_eq]
  have : ∀ l : List Msg, (∀ x ∈ l, x.size ≤ x.weight) → (l.map Msg.size).sum ≤ weights l := by
    intro l h
    unfold weights
    induction l with
    | nil => simp
    | cons x l ih =>
      have h1 := ih fun y hy => h y (List.mem_cons_of_mem _ hy)
      have h2 := h x List.mem_cons_self
      simp only [List.map_cons, List.sum_cons]; omega
  have := this m.subs fun x hx => weight_size x
  omega
termination_by SizeOf.sizeOf m
decreasing_by exact Msg.subs_lt hx
theorem weight_sub {m x : Msg} (h : x ∈ m.subs) : x.weight ≤ m.weight := by
  have := weights_mem h
  rw [Msg.weight_eq m]; omega
theorem weight_f (m : Msg) : m.f.length ≤ m.weight := by rw [Msg.weight_eq]; omega
theorem length_flatMap_mem {α β : Type} (f : α → List β) {l : List α} {x : α} (h : x ∈ l) : (f x).length ≤ (l.flatMap f).length := by
  obtain ⟨a, b, rfl⟩ := List.append_of_mem h
  simp [List.flatMap_append]; omega
theorem weight_rows (m : Msg) {s : Slot} (hs : s ∈ m.f) : Slot.rows m.weight s := by
  have hv : s.k.length + s.v.length ≤ m.vals.length := by
    have := length_flatMap_mem (fun s : Slot => s.k ++ s.v) hs
    simpa [Msg.vals] using this
  have hw := Msg.weight_eq m
  refine ⟨by omega, by omega, fun x hx => ?_⟩
  have hx' : x ∈ m.vals := List.mem_flatMap.2 ⟨s, hs, List.mem_append.2 hx⟩
  have := length_flatMap_mem (fun x : Val => x.m) hx'
  have h2 : (m.vals.flatMap fun x => x.m).length = m.subs.length := rfl
  omega
theorem RMsg.shrink {L L' B : Nat} {w : World} : ∀ (n : Nat) {cs : List Value} {m : Msg}, RMsg L B w n cs m → m.weight ≤ L' → RMsg L' B w n cs m
  | 0, _, _, h, _ => h.elim
  | n + 1, _, m, h, hw => by
    obtain ⟨c, rfl, h⟩ := h
    refine ⟨c, rfl, h.gen (by have := weight_f m; omega) (Nat.le_refl _) (Keeps.refl _ _) fun cs s hs h => h.gen ?_ (Nat.le_refl _) (Keeps.refl _ _) fun cs x hx h => RMsg.shrink n h ?_⟩
    · obtain ⟨h1, h2, h3⟩ := weight_rows m hs
      exact ⟨by omega, by omega, fun x hx => by have := h3 x hx; omega⟩
    · obtain ⟨y, hy, hx⟩ := hx
      have := weight_sub (m := m) (x := x) (List.mem_flatMap.2 ⟨y, List.mem_flatMap.2 ⟨s, hs, List.mem_append.2 hy⟩, hx⟩)
      omega
end Go.Tr
namespace Go.Proofs.YthikfifoomfjgaaGreat
open Go.RowKit Go.Tr
set_option linter.unusedVariables false
set_option linter.unusedSimpArgs false
def ccap (d : Int) : Nat := 8796093040000 + 10000 * d.toNat
def CountPost (d : Int) (m : Msg) (w : World) (e : Ending) (w' : World) : Prop :=
  (∃ r : Nat, e = .returned (.int .i64 r) ∧ r ≤ ccap d ∧ (r ≤ 3000 → r = m.weight ∧ (m.deep : Int) ≤ d)) ∧ Below w.heap.size w w'
/-- So far: if not too many, it is just those, and none of them is too deep. -/
def CountAt (d : Int) (t f v s : Nat) (S : List Msg) : Prop := t ≤ ccap d ∧ (t ≤ 3000 → t = acc f v s S ∧ ∀ x ∈ S, (x.deep : Int) ≤ d - 1)
theorem CountAt.more {d : Int} {t f v s : Nat} {S : List Msg} (h : CountAt d t f v s S) (ht : t ≤ 3000) (a : Nat) (ha : a ≤ 8796093022208) (v' s' : Nat) (he : v' + s' = v + s + a) : CountAt d (t + a) f v' s' S := by
  refine ⟨by unfold ccap; omega, fun h3 => ?_⟩
  obtain ⟨h1, h2⟩ := h.2 ht
  exact ⟨by rw [h1]; unfold acc; omega, h2⟩
theorem CountAt.sub {d : Int} {t f v s : Nat} {S : List Msg} (h : CountAt d t f v s S) (ht : t ≤ 3000) (hd : 1 ≤ d) (x : Msg) (r : Nat) (hr : r ≤ ccap (d - 1)) (hx : r ≤ 3000 → r = x.weight ∧ (x.deep : Int) ≤ d - 1) : CountAt d (t + r) f v s (S ++ [x]) := by
  refine ⟨by unfold ccap at hr ⊢; omega, fun h3 => ?_⟩
  obtain ⟨h1, h2⟩ := h.2 ht
  obtain ⟨h4, h5⟩ := hx (by omega)
  refine ⟨by rw [h1, h4]; unfold acc; rw [weights_app, weights_one]; omega, fun y hy => ?_⟩
  rcases List.mem_append.1 hy with hy | hy
  · exact h2 y hy
  · rw [List.mem_singleton.1 hy]; exact h5
theorem CountAt.big {d : Int} {t f v s : Nat} {S : List Msg} (h : CountAt d t f v s S) (ht : ¬ t ≤ 3000) (f' v' s' : Nat) (S' : List Msg) : CountAt d t f' v' s' S' := ⟨h.1, fun h' => absurd h' ht⟩
theorem CountAt.bound {d : Int} {t f v s : Nat} {S : List Msg} (h : CountAt d t f v s S) (hd : d ≤ 1000) : t ≤ 8796103040000 := by
  have := h.1
  unfold ccap at this; omega
section
attribute [local go_sem] run_store
set_option maxHeartbeats 4000000 in
set_option maxRecDepth 100000 in
theorem count_step (L n : Nat) (hL : L ≤ 8796093022208) (hm : ∀ w cs m d, -1000 ≤ d → d ≤ 1000 → RMsg L 0 w n cs m → Calls Tryz.prog 53 #[.agg cs.toArray, .int .i64 d] w (CountPost d m w))
    (w : World) (cs : List Value) (m : Msg) (d : Int) (hd0 : -1000 ≤ d) (hd1 : d ≤ 1000) (hx : RMsg L 0 w (n + 1) cs m) :
    Calls Tryz.prog 53 #[.agg cs.toArray, .int .i64 d] w (CountPost d m w) := by
  have HM := Lib.hid hm
  clear hm
  obtain ⟨c, rfl, h4⟩ := hx
  have H4 := Lib.hid h4
  have hlen := h4.len
  obtain ⟨a1, cap1, rfl, q0, q1, q2, -, -⟩ := h4
  unfold maxLen at q2
  by_cases hd : d ≤ 0
  · go_enter Tryz.func53, Tryz.ntmps53
    have hdd : decide (d ≤ 0) = true := by simpa using hd
    go_wp2
    exact ⟨rfl, _, results_tmp (t := 4) rfl _ _ _, ⟨10000, rfl, by unfold ccap; omega, fun h => by omega⟩, al1 _ _⟩
  · by_cases hf : m.f.length > 3000
    · go_enter Tryz.func53, Tryz.ntmps53
      have hdd : decide (d ≤ 0) = false := by simpa using hd
      have hff : decide ((m.f.length : Int) > 3000) = true := by simp; omega
      go_wp2
      exact ⟨rfl, _, results_tmp (t := 4) rfl _ _ _, ⟨10000, rfl, by unfold ccap; omega, fun h => by omega⟩, al1 _ _⟩
    · have hdd : decide (d ≤ 0) = false := by simpa using hd
      have hff : decide ((m.f.length : Int) > 3000) = false := by simp; omega
      have hd2 : 0 < d := by omega
      have hf2 : m.f.length ≤ 3000 := by omega
      have HF := Lib.hid hf2
      clear hf hd hlen
      go_enter Tryz.func53, Tryz.ntmps53
      go_wp2_with fail
      clear hff hdd
      go_loopw [5, 6] (fun o i wr => ∃ k t : Nat, k ≤ m.f.length ∧ i = .int .i64 k ∧ o = .int .i64 t ∧ Hid (CountAt d t m.f.length (valsTo m k).length (subsOf (valsTo m k)).length (subsOf (valsTo m k))) ∧ Hid (Below (w.heap.size + 1) (w.alloc (.cells #[.slice a1 m.f.length cap1] 28)) wr)) (fun o i _ => m.f.length - (intOf i).toNat)
      case atStart => exact ⟨0, m.f.length, by omega, rfl, rfl, ⟨by unfold ccap; omega, fun _ => ⟨by simp [acc, valsTo, subsOf, weights], by simp [valsTo, subsOf]⟩⟩, Below.refl _ _⟩
      case round =>
        obtain ⟨k, t, hk, rfl, rfl, HA, HB⟩ := hrel
        obtain ⟨wo, rfl⟩ : ∃ wo, wo = wr := ⟨_, rfl⟩
        have hbox := (HB.out.cell (p := ⟨w.heap.size, 0, none⟩) (by simp)).trans (show _ = some (Value.slice a1 m.f.length cap1) by simp [go_sem])
        have hz := HB.out.size
        rw [show (w.alloc (.cells #[.slice a1 m.f.length cap1] 28)).heap.size = w.heap.size + 1 by simp] at hz
        by_cases hlt : k < m.f.length
        · by_cases ht : t ≤ 3000
          · have htt : decide ((t : Int) ≤ 3000) = true := by simp; omega
            have HW := Lib.hid (show Below w.heap.size w wo from (al1 _ _).trans (HB.out.mono (by omega)))
            obtain ⟨bx, ox, c0, c1, c2, e1, -, m0, m1, m2, n0, n1, n2, rx⟩ := (H4.out.imp (R' := RSlot L 0 wo (RMsg L 0 wo n)) HW.out fun _ _ _ h => h.below HW.out).get3 (rslot_three L 0 n) k hlt
            cases e1
            have bl := block_lt_of_cell m0
            have HC0 := Lib.hid (ref_both L n hL wo [c0, c1, c2] m.f[k] rx)
            obtain ⟨c, c', e, -, -, r3, r4⟩ := rx
            cases e
            obtain ⟨a3, cap3, rfl, x3, y3, z3, -, -⟩ := r3
            obtain ⟨a4, cap4, rfl, x4, y4, z4, -, -⟩ := r4
            unfold maxLen at z3 z4
            by_cases hkk : m.f[k].k.length > 3000
            · have hkd : decide ((m.f[k].k.length : Int) > 3000) = true := by simp; omega
              clear HC0
              go_wp2
              exact ⟨rfl, _, results_tmp (t := 4) rfl _ _ _, ⟨10000, rfl, by unfold ccap; omega, fun h => by omega⟩, HW.out⟩
            · have hkd : decide ((m.f[k].k.length : Int) > 3000) = false := by simp; omega
              by_cases hvv : m.f[k].v.length > 3000
              · have hvd : decide ((m.f[k].v.length : Int) > 3000) = true := by simp; omega
                clear HC0
                go_wp2
                exact ⟨rfl, _, results_tmp (t := 4) rfl _ _ _, ⟨10000, rfl, by unfold ccap; omega, fun h => by omega⟩, HW.out⟩
              · have hvd : decide ((m.f[k].v.length : Int) > 3000) = false := by simp; omega
                have hk3 : m.f[k].k.length ≤ 3000 := by omega
                have hv3 : m.f[k].v.length ≤ 3000 := by omega
                have hbl : (m.f[k].k ++ m.f[k].v).length ≤ 6000 := by rw [List.length_append]; omega
                have hnx : valsTo m (k + 1) = valsTo m k ++ (m.f[k].k ++ m.f[k].v) := valsTo_next m k hlt
                have HC := Lib.hid (HC0.out (by omega) (by omega))
                clear HC0
                generalize m.f[k].k ++ m.f[k].v = bs at HC hbl hnx
                have HNX := Lib.hid hnx
                have HA1 := Lib.hid (HA.out.more ht bs.length (by omega) ((valsTo m k).length + bs.length) (subsOf (valsTo m k)).length (by omega))
                clear hnx hkk hvv hk3 hv3
                go_wp2_with (go_at_call 75; (with_reducible refine HC.out.mono ?_); rintro e w1 ⟨v1, rfl, r1, b1⟩; (have R1 := Lib.hid r1); (have B1 := Lib.hid b1); (obtain ⟨a2, cap2, rfl, u0, u1, u2, -, -⟩ := r1); clear b1)
                unfold maxLen at u2
                clear hkd hvd htt
                go_loopw [5, 8] (fun o j wr => ∃ i t : Nat, i ≤ bs.length ∧ j = .int .i64 i ∧ o = .int .i64 t ∧ Hid (CountAt d t m.f.length ((valsTo m k).length + bs.length) (subsOf (valsTo m k) ++ subsTo bs i).length (subsOf (valsTo m k) ++ subsTo bs i)) ∧ Hid (Below w1.heap.size w1 wr)) (fun o j _ => bs.length - (intOf j).toNat)
                case atStart => exact ⟨0, t + bs.length, by omega, rfl, by go_num, by have h := HA1.out; simp only [subsTo, List.take_zero, List.flatMap_nil, List.append_nil]; exact h, Below.refl _ _⟩
                case round =>
                  obtain ⟨i, t2, hi, rfl, rfl, HA2, HC2⟩ := hrel
                  obtain ⟨wm, rfl⟩ : ∃ wm, wm = wr := ⟨_, rfl⟩
                  have hdone : (i = bs.length ∨ ¬ t2 ≤ 3000) → CountAt d t2 m.f.length (valsTo m (k + 1)).length (subsOf (valsTo m (k + 1))).length (subsOf (valsTo m (k + 1))) := by
                    rintro (h | h)
                    · have h1 := HA2.out
                      rw [h, subsTo_all, ← subsOf_app, ← HNX.out, ← List.length_append, ← HNX.out] at h1
                      exact h1
                    · exact HA2.out.big h _ _ _ _
                  have HDN := Lib.hid hdone
                  clear hdone
                  by_cases hlt2 : i < bs.length
                  · by_cases ht2 : t2 ≤ 3000
                    · have htt2 : decide ((t2 : Int) ≤ 3000) = true := by simp; omega
                      obtain ⟨by', oy, d0, d1, d2, e2, -, p0, p1, p2, z0, z1, z2, ry⟩ := (R1.out.imp (R' := RVal L 0 wm (RMsg L 0 wm n)) HC2.out fun _ _ _ h => h.below HC2.out).get3 (rval_three L 0 n) i hlt2
                      cases e2
                      have bl2 := block_lt_of_cell p0
                      obtain ⟨c, e, -, -, -, r4⟩ := ry
                      cases e
                      have R4 := Lib.hid r4
                      have hml := r4.len
                      obtain ⟨a4, cap4, rfl, y0, y1, y2, -, -⟩ := r4
                      unfold maxLen at y2
                      have P2 := Lib.hid p2
                      have HA3 := Lib.hid (HA2.out.more ht2 bs[i].m.length (by omega) ((valsTo m k).length + bs.length) (subsOf (valsTo m k) ++ subsTo bs i ++ bs[i].m).length (by rw [List.length_append (bs := bs[i].m)]; omega))
                      clear p0 p1
                      go_wp2
                      clear htt2
                      go_loopw [5, 9] (fun o j wr => ∃ q t : Nat, q ≤ bs[i].m.length ∧ j = .int .i64 q ∧ o = .int .i64 t ∧ Hid (CountAt d t m.f.length ((valsTo m k).length + bs.length) (subsOf (valsTo m k) ++ subsTo bs i ++ bs[i].m).length (subsOf (valsTo m k) ++ subsTo bs i ++ bs[i].m.take q)) ∧ Hid (Below wm.heap.size wm wr)) (fun o j _ => bs[i].m.length - (intOf j).toNat)
                      case atStart => exact ⟨0, t2 + bs[i].m.length, by omega, rfl, by go_num, by have h := HA3.out; rw [List.take_zero, List.append_nil]; exact h, Below.refl _ _⟩
                      case round =>
                        obtain ⟨q, t3, hq, rfl, rfl, HA4, HC3⟩ := hrel
                        have hp2 := (HC3.out.cell (block_lt_of_cell P2.out)).trans P2.out
                        have hdone2 : (q = bs[i].m.length ∨ ¬ t3 ≤ 3000) → CountAt d t3 m.f.length ((valsTo m k).length + bs.length) (subsOf (valsTo m k) ++ subsTo bs (i + 1)).length (subsOf (valsTo m k) ++ subsTo bs (i + 1)) := by
                          rintro (h | h)
                          · have h1 := HA4.out
                            rw [h, List.take_length, List.append_assoc, ← subsTo_next _ _ hlt2] at h1
                            exact h1
                          · exact HA4.out.big h _ _ _ _
                        have HDN2 := Lib.hid hdone2
                        clear hdone2
                        by_cases hlt3 : q < bs[i].m.length
                        · by_cases ht3 : t3 ≤ 3000
                          · have htt3 : decide ((t3 : Int) ≤ 3000) = true := by simp; omega
                            obtain ⟨bz, oz, f0, e3, -, s0, t0, rz⟩ := (R4.out.imp (R' := RMsg L 0 wr n) HC3.out fun _ _ _ h => RMsg.below HC3.out n h).get1 (rmsg_one L 0 n) q hlt3
                            cases e3
                            have bl3 := block_lt_of_cell s0
                            have HI := Lib.hid (HM.out wr _ _ (d - 1) (by omega) (by omega) rz)
                            have HS := Lib.hid fun (r : Nat) (hr : r ≤ ccap (d - 1)) (hx : r ≤ 3000 → r = bs[i].m[q].weight ∧ (bs[i].m[q].deep : Int) ≤ d - 1) => (HA4.out.sub ht3 (by omega) bs[i].m[q] r hr hx)
                            have HTK := Lib.hid (show subsOf (valsTo m k) ++ subsTo bs i ++ bs[i].m.take q ++ [bs[i].m[q]] = subsOf (valsTo m k) ++ subsTo bs i ++ bs[i].m.take (q + 1) by
                              rw [List.take_succ_eq_append_getElem hlt3, ← List.append_assoc])
                            clear rz
                            go_wp2_with (go_at_call 53; (with_reducible refine HI.out.mono ?_); rintro e w3 ⟨⟨r, rfl, hr1, hr2⟩, b3⟩; (have HR := Lib.hid (HS.out r hr1 hr2)); (have hrb : r ≤ 8796103040000 := by unfold ccap at hr1; omega); clear hr2 hr1)
                            refine ⟨⟨q + 1, t3 + r, by omega, by go_num, by go_num, by have h := HR.out; rw [HTK.out] at h; exact h, HC3.out.nx b3⟩, ?_⟩
                            simp only [intOf]
                            omega
                          · have htt3 : decide ((t3 : Int) ≤ 3000) = false := by simp; omega
                            have hbd := HA4.out.bound hd1
                            have HF2 := Lib.hid (HDN2.out (.inr ht3))
                            go_wp2
                            refine ⟨⟨i + 1, t3, by omega, by go_num, rfl, HF2.out, HC2.out.nx HC3.out⟩, ?_⟩
                            simp only [intOf]
                            omega
                        · have HF2 := Lib.hid (HDN2.out (.inl (by omega)))
                          have hbd := HA4.out.bound hd1
                          go_wp2
                          refine ⟨⟨i + 1, t3, by omega, by go_num, rfl, HF2.out, HC2.out.nx HC3.out⟩, ?_⟩
                          simp only [intOf]
                          omega
                    · have htt2 : decide ((t2 : Int) ≤ 3000) = false := by simp; omega
                      have hbd := HA2.out.bound hd1
                      have HF2 := Lib.hid (HDN.out (.inr ht2))
                      go_wp2
                      refine ⟨⟨k + 1, t2, by omega, by go_num, rfl, HF2.out, HB.out.trans ((B1.out.nx HC2.out).mono (by omega))⟩, ?_⟩
                      simp only [intOf]
                      omega
                  · have hbd := HA2.out.bound hd1
                    have HF2 := Lib.hid (HDN.out (.inl (by omega)))
                    go_wp2
                    refine ⟨⟨k + 1, t2, by omega, by go_num, rfl, HF2.out, HB.out.trans ((B1.out.nx HC2.out).mono (by omega))⟩, ?_⟩
                    simp only [intOf]
                    omega
          · have HT := Lib.hid ht
            have htt : decide ((t : Int) ≤ 3000) = false := by simp; omega
            have hbd := HA.out.bound hd1
            go_wp2
            exact ⟨rfl, .int .i64 t, results_tmp (t := 4) rfl _ _ _, ⟨t, rfl, HA.out.1, fun h => absurd h HT.out⟩, (al1 _ _).trans (HB.out.mono (by omega))⟩
        · have hkl : k = m.f.length := by omega
          subst hkl
          have hdp : t ≤ 3000 → t = m.weight ∧ (m.deep : Int) ≤ d := fun h => by
            obtain ⟨h1, h2⟩ := HA.out.2 h
            rw [valsTo_end, subsOf_vals] at h1 h2
            exact ⟨by rw [h1, Msg.weight_eq]; rfl, deep_of m d h2 (by omega)⟩
          have HDP := Lib.hid hdp
          clear hdp
          go_wp2
          exact ⟨rfl, .int .i64 t, results_tmp (t := 4) rfl _ _ _, ⟨t, rfl, HA.out.1, HDP.out⟩, (al1 _ _).trans (HB.out.mono (by omega))⟩
/-- truffleref09.count. -/
theorem ref_count (L : Nat) (hL : L ≤ 8796093022208) : ∀ (n : Nat) (w : World) (cs : List Value) (m : Msg) (d : Int), -1000 ≤ d → d ≤ 1000 → RMsg L 0 w n cs m →
    Calls Tryz.prog 53 #[.agg cs.toArray, .int .i64 d] w (CountPost d m w)
  | 0, _, _, _, _, _, _, h => h.elim
  | n + 1, w, cs, m, d, h1, h2, h => count_step L n hL (fun w cs m d h1 h2 h => ref_count L hL n w cs m d h1 h2 h) w cs m d h1 h2 h
def FewPost (d : Int) (m : Msg) (w : World) (e : Ending) (w' : World) : Prop :=
  (∃ b : Bool, e = .returned (.bool b) ∧ (b = true → m.weight ≤ 3000 ∧ (m.deep : Int) ≤ d)) ∧ Below w.heap.size w w'
set_option maxHeartbeats 1000000 in
/-- truffleref09.Few. -/
theorem ref_few (L n : Nat) (hL : L ≤ 8796093022208) (w : World) (cs : List Value) (m : Msg) (d : Int) (h1 : -1000 ≤ d) (h2 : d ≤ 1000) (h : RMsg L 0 w n cs m) :
    Calls Tryz.prog 28 #[.agg cs.toArray, .int .i64 d] w (FewPost d m w) := by
  have HC := Lib.hid fun w' (hb : Below w.heap.size w w') => ref_count L hL n w' cs m d h1 h2 (RMsg.below hb n h)
  obtain ⟨c, rfl, o⟩ := rmsg_one L 0 n w cs m h
  go_enter Tryz.func28, Tryz.ntmps28
  go_wp2_with fail
  refine (HC.out _ (al1 _ _)).mono ?_; rintro e w3 ⟨⟨r, rfl, hr1, hr2⟩, b3⟩
  have HR := Lib.hid hr2
  have hrb : r ≤ 8796103040000 := by unfold ccap at hr1; omega
  clear hr2 hr1
  by_cases hr : r ≤ 3000
  · have hd : decide ((r : Int) ≤ 3000) = true := by simp; omega
    go_wp2
    exact ⟨rfl, _, results_tmp (t := 4) rfl _ _ _, ⟨true, rfl, fun _ => by have := HR.out hr; omega⟩, (al1 _ _).nx b3⟩
  · have hd : decide ((r : Int) ≤ 3000) = false := by simp; omega
    go_wp2
    exact ⟨rfl, _, results_tmp (t := 4) rfl _ _ _, ⟨false, rfl, fun h => by cases h⟩, (al1 _ _).nx b3⟩
end
end Go.Proofs.YthikfifoomfjgaaGreat
