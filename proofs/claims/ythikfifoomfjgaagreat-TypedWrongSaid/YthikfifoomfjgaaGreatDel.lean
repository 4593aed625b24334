/- Contract of slices.DeleteFunc at elements of three cells, at whatever function value. -/
import Derived.Test.YthikfifoomfjgaaGreatRow
import Derived.Test.YthikfifoomfjgaaGreatFunc
import Derived.Test.YthikfifoomfjgaaGreatEach
namespace Go.Tr
set_option linter.unusedVariables false
set_option linter.unusedSimpArgs false
def flat (l : List Cell3) : List Value := l.flatMap cells3
theorem flat_cons (t : Cell3) (l : List Cell3) : flat (t :: l) = cells3 t ++ flat l := rfl
theorem flat_app (a b : List Cell3) : flat (a ++ b) = flat a ++ flat b := by simp [flat]
theorem flat_length (l : List Cell3) : (flat l).length = l.length * 3 := by
  induction l with
  | nil => rfl
  | cons t l ih => rw [flat_cons, List.length_append, ih, List.length_cons]; simp [cells3]; omega
theorem flat_take (l : List Cell3) (i : Nat) : (flat l).take (i * 3) = flat (l.take i) := by
  induction l generalizing i with
  | nil => simp [flat]
  | cons t l ih =>
    cases i with
    | zero => simp [flat]
    | succ i => rw [flat_cons, List.take_succ_cons, flat_cons, ← ih, show (i + 1) * 3 = (cells3 t).length + i * 3 by simp [cells3]; omega, List.take_length_add_append]
theorem flat_drop (l : List Cell3) (i : Nat) : (flat l).drop (i * 3) = flat (l.drop i) := by
  induction l generalizing i with
  | nil => simp [flat]
  | cons t l ih =>
    cases i with
    | zero => simp
    | succ i => rw [flat_cons, List.drop_succ_cons, ← ih, show (i + 1) * 3 = (cells3 t).length + i * 3 by simp [cells3]; omega, List.drop_length_add_append]
theorem flat_get (l : List Cell3) (i : Nat) (h : i < l.length) : (flat l)[i * 3]? = some l[i].1 ∧ (flat l)[i * 3 + 1]? = some l[i].2.1 ∧ (flat l)[i * 3 + 2]? = some l[i].2.2 := by
  have e : flat (l.drop i) = cells3 l[i] ++ flat (l.drop (i + 1)) := by rw [List.drop_eq_getElem_cons h, flat_cons]
  have g : ∀ j, j < 3 → (flat l)[i * 3 + j]? = (cells3 l[i])[j]? := fun j hj => by
    rw [← List.getElem?_drop, flat_drop, e, List.getElem?_append_left (by simp [cells3]; omega)]
  exact ⟨g 0 (by omega), g 1 (by omega), g 2 (by omega)⟩
theorem flat_one {l : List Cell3} (h : ∀ t ∈ l, t.1.oneCell' = true ∧ t.2.1.oneCell' = true ∧ t.2.2.oneCell' = true) : ∀ u ∈ flat l, u.oneCell' = true := by
  intro u hu
  obtain ⟨t, ht, hu⟩ := List.mem_flatMap.1 hu
  obtain ⟨h1, h2, h3⟩ := h t ht
  simp only [cells3, List.mem_cons, List.not_mem_nil, or_false] at hu
  rcases hu with rfl | rfl | rfl <;> assumption
/-- A row of one's own that holds these. -/
theorem owns_row3 {w : World} {base : Nat} {e : TypeId} {v : Value} {l : List Cell3} (h : w.ownsRow base e 3 v l.length (flat l)) (hl : l.length ≤ maxLen) (h1 : ∀ t ∈ l, t.1.oneCell' = true ∧ t.2.1.oneCell' = true ∧ t.2.2.oneCell' = true) :
    RowOf l.length 0 w 3 R3 v l := by
  refine Has.row (e := e) (B := base) (R := R3) ⟨flat l, h, fun i hi _ => ⟨cells3 l[i], rfl, fun j u hu => ?_, rfl, h1 _ (List.getElem_mem hi)⟩⟩ (Nat.le_refl _) (Nat.zero_le _) (Keeps.refl _ _) (fun _ _ _ h => h)
  have hg := flat_get l i hi
  have hj : j < 3 := by have := (List.getElem?_eq_some_iff.1 hu).1; simpa [cells3] using this
  match j, hj with
  | 0, _ => rw [Nat.add_zero, hg.1]; simpa [cells3] using hu
  | 1, _ => rw [hg.2.1]; simpa [cells3] using hu
  | 2, _ => rw [hg.2.2]; simpa [cells3] using hu
/-- The state of DeleteFunc's loop, plain: so many are kept, so many are seen. -/
def DelAt (p : Cell3 → Bool) (l : List Cell3) (ys : List Value) (i j : Nat) : Prop :=
  ys.length = l.length * 3 ∧ i = ((l.take j).filter fun t => !p t).length ∧ i < j ∧ ys.take (i * 3) = flat ((l.take j).filter fun t => !p t) ∧ ys.drop (j * 3) = flat (l.drop j)
theorem DelAt.start (p : Cell3 → Bool) (l : List Cell3) (k : Nat) (hk : k < l.length) (h : p l[k] = true) (hb : ∀ j (hj : j < l.length), j < k → p l[j] = false) : DelAt p l (flat l) k (k + 1) := by
  have e : ((l.take (k + 1)).filter fun t => !p t) = l.take k := by
    rw [List.take_succ_eq_append_getElem hk, List.filter_append]
    have : ∀ t ∈ l.take k, (!p t) = true := fun t ht => by
      obtain ⟨j, hj, rfl⟩ := List.mem_iff_getElem.1 ht
      rw [List.getElem_take]
      simp [hb j (by simp at hj; omega) (by simp at hj; omega)]
    rw [List.filter_eq_self.2 this]
    simp [h]
  refine ⟨flat_length l, ?_, by omega, ?_, flat_drop _ _⟩
  · rw [e]; simp; omega
  · rw [e, flat_take]
theorem DelAt.keep {p : Cell3 → Bool} {l : List Cell3} {ys : List Value} {i j : Nat} (h : DelAt p l ys i j) (hj : j < l.length) (hp : p l[j] = false) : DelAt p l (setL ys (i * 3) (cells3 l[j])) (i + 1) (j + 1) := by
  obtain ⟨h0, h1, h2, h3, h4⟩ := h
  have e : ((l.take (j + 1)).filter fun t => !p t) = ((l.take j).filter fun t => !p t) ++ [l[j]] := by
    rw [List.take_succ_eq_append_getElem hj, List.filter_append]; simp [hp]
  have hc : (cells3 l[j]).length = 3 := rfl
  have hij : i * 3 + 3 ≤ j * 3 := by omega
  have hjl : j * 3 + 3 ≤ l.length * 3 := by omega
  refine ⟨by rw [setL_length, h0], by rw [e, List.length_append, ← h1]; rfl, by omega, ?_, ?_⟩
  · rw [setL_eq _ _ _ (by rw [hc, h0]; omega), e, flat_app, ← h3, hc]
    rw [show (i + 1) * 3 = (ys.take (i * 3)).length + 3 by rw [List.length_take, h0]; omega, List.take_length_add_append, List.take_left' hc]
    simp [flat]
  · have : ∀ q, (j + 1) * 3 ≤ q → (setL ys (i * 3) (cells3 l[j]))[q]? = ys[q]? := fun q hq => by
      rw [setL_get _ _ _ _ (by rw [hc, h0]; omega), if_neg (by rw [hc]; omega)]
    have h5 : ys.drop ((j + 1) * 3) = flat (l.drop (j + 1)) := by
      have : ys.drop ((j + 1) * 3) = (ys.drop (j * 3)).drop 3 := by rw [List.drop_drop]; congr 1; omega
      rw [this, h4, show (3 : Nat) = 1 * 3 by rfl, flat_drop, List.drop_drop]
    rw [← h5]
    apply List.ext_getElem?
    intro q
    rw [List.getElem?_drop, List.getElem?_drop, this _ (by omega)]
theorem DelAt.drop {p : Cell3 → Bool} {l : List Cell3} {ys : List Value} {i j : Nat} (h : DelAt p l ys i j) (hj : j < l.length) (hp : p l[j] = true) : DelAt p l ys i (j + 1) := by
  obtain ⟨h0, h1, h2, h3, h4⟩ := h
  have e : ((l.take (j + 1)).filter fun t => !p t) = ((l.take j).filter fun t => !p t) := by
    rw [List.take_succ_eq_append_getElem hj, List.filter_append]; simp [hp]
  refine ⟨h0, by rw [e]; exact h1, by omega, by rw [e]; exact h3, ?_⟩
  have : ys.drop ((j + 1) * 3) = (ys.drop (j * 3)).drop 3 := by rw [List.drop_drop]; congr 1; omega
  rw [this, h4, show (3 : Nat) = 1 * 3 by rfl, flat_drop, List.drop_drop]
theorem DelAt.at {p : Cell3 → Bool} {l : List Cell3} {ys : List Value} {i j : Nat} (h : DelAt p l ys i j) (hj : j < l.length) : ys[j * 3]? = some l[j].1 ∧ ys[j * 3 + 1]? = some l[j].2.1 ∧ ys[j * 3 + 2]? = some l[j].2.2 := by
  obtain ⟨h0, h1, h2, h3, h4⟩ := h
  have hg := flat_get (l.drop j) 0 (by simp; omega)
  rw [← h4] at hg
  simp only [List.getElem?_drop, List.getElem_drop, Nat.zero_mul, Nat.zero_add, Nat.add_zero] at hg
  exact hg
theorem filter_none {p : Cell3 → Bool} {l : List Cell3} (h : ∀ j (hj : j < l.length), p l[j] = false) : (l.filter fun t => !p t) = l :=
  List.filter_eq_self.2 fun t ht => by obtain ⟨j, hj, rfl⟩ := List.mem_iff_getElem.1 ht; simp [h j hj]
end Go.Tr
namespace Go.Proofs.YthikfifoomfjgaaGreat
open Go.RowKit Go.Tr
set_option linter.unusedVariables false
set_option linter.unusedSimpArgs false
section
attribute [local go_sem] run_store
set_option maxHeartbeats 2000000 in
theorem deleteFunc_slot (base : Nat) (p : Cell3 → Bool) (g : Nat) (caps : Array Value) (eg : ∀ args w, (callFunc g args).run Tryz.prog w = .ok (.enter g args) w)
    (Ok : World → Prop) (hOk : ∀ w w', Ok w → Below w.heap.size w w' → Ok w')
    (G : Cell3 → Prop) (hg : ∀ w cs x, Ok w → R3 cs x ∧ G x → Calls Tryz.prog g (#[.agg cs.toArray] ++ caps) w fun e w' => e = .returned (.bool (p x)) ∧ Below w.heap.size w w')
    (w : World) (v : Value) (l : List Cell3) (h1 : ∀ t ∈ l, t.1.oneCell' = true ∧ t.2.1.oneCell' = true ∧ t.2.2.oneCell' = true) (hG : ∀ t ∈ l, G t) (hl : l.length ≤ 1099511627776)
    (hown : w.ownsRow base 35 3 v l.length (flat l)) (hok : Ok w) (hOk2 : ∀ w b o ds, v.ownBlock = some b → Ok w → Ok (w.setCells b o ds)) :
    Calls Tryz.prog 49 #[v, .func (.func g) #[] caps] w fun e w' => ∃ v', e = .returned v' ∧
      w'.ownsRow base 35 3 v' (l.filter fun t => !p t).length (flat (l.filter fun t => !p t)) ∧ v'.ownBlock = v.ownBlock ∧ w.grownBy w' v.ownBlock := by
  have HI := Lib.hid fun w' (hb : Below w.heap.size w w') => indexFunc_slot l.length 0 (by unfold maxLen; omega) (fun _ cs x => R3 cs x ∧ G x) (fun _ _ _ _ _ h => h) (fun w cs x h => r3_three w cs x h.1) p g caps eg Ok hOk hg w' v l ((owns_row3 (owns_below hown hb) (by unfold maxLen; omega) h1).imp (Below.refl _ _) fun cs x hx h => ⟨h, hG x hx⟩) (hOk _ _ hok hb)
  have HO := Lib.hid hown
  have hcase : (v = .slice none 0 0 ∧ l = []) ∨ ∃ gb cap, v = .slice (some ⟨gb, 0, none⟩) l.length cap ∧ l.length ≤ cap ∧ cap ≤ maxLen ∧ gb < w.heap.size := by
    rcases hown.2 with ⟨h, hn⟩ | ⟨gb, cap, cur, h, -, hc, h2, h3, -⟩
    · exact .inl ⟨h, List.eq_nil_of_length_eq_zero hn⟩
    · exact .inr ⟨gb, cap, h, h2, h3, by subst h; exact (hown.lt gb rfl).2⟩
  rcases idxOf_cases p l with ⟨hi, hall⟩ | ⟨k, hk, hi, hp, hb⟩
  · have HF := Lib.hid (filter_none hall)
    rw [hi] at HI
    clear hi hall hown hcase
    go_enter Tryz.func49, Tryz.ntmps49
    go_wp2_with (go_at_call 45; (with_reducible refine (HI.out _ (Below.refl _ _)).mono ?_); rintro e w' ⟨rfl, b'⟩)
    exact ⟨rfl, v, results_tmp (t := 4) rfl _ _ _, v, rfl, by rw [HF.out]; exact owns_below HO.out b', rfl, ⟨b'.os, b'.tape, b'.output, b'.size, fun k hk _ => b'.block k hk⟩⟩
  · rcases hcase with ⟨-, rfl⟩ | ⟨gb, cap, rfl, hc1, hc2, hgb⟩
    · simp at hk
    rw [hi] at HI
    unfold maxLen at hc2
    have HS := Lib.hid (DelAt.start p l k hk hp hb)
    clear hi hown hp hb
    have HOK := Lib.hid hOk
    have HOK2 := Lib.hid fun w o ds => hOk2 w gb o ds rfl
    have HG := Lib.hid hg
    have H1 := Lib.hid h1
    have HGG := Lib.hid hG
    have HK := Lib.hid hok
    clear hOk hOk2 hg h1 hok hG
    have hne : decide ((k : Int) = -1) = false := by simp
    have hne2 : ((k : Int) == -1) = false := by simp
    go_enter Tryz.func49, Tryz.ntmps49
    go_wp2_with (go_at_call 45; (with_reducible refine (HI.out _ (Below.refl _ _)).mono ?_); rintro e w1 ⟨rfl, b1⟩)
    have HB1 := Lib.hid b1
    clear b1
    go_loopw [5, 6] (fun i j wr => ∃ (a b : Nat) (ys : List Value), b ≤ l.length ∧ i = .int .i64 a ∧ j = .int .i64 b ∧ a < b ∧ Hid (DelAt p l ys a b) ∧ Hid (wr.ownsRow base 35 3 (.slice (some ⟨gb, 0, none⟩) l.length cap) l.length ys) ∧ Hid (w.grownBy wr (some gb)) ∧ Hid (Ok wr)) (fun i j _ => l.length - (intOf j).toNat)
    case atStart => exact ⟨k, k + 1, _, by omega, rfl, by go_num, by omega, HS.out, owns_below HO.out HB1.out, ⟨HB1.out.os, HB1.out.tape, HB1.out.output, HB1.out.size, fun k hk _ => HB1.out.block k hk⟩, HOK.out _ _ HK.out HB1.out⟩
    case round =>
      obtain ⟨a, b, ys, hb, rfl, rfl, hab, hdel, hown, hgrow, hok⟩ := hrel
      by_cases hlt : b < l.length
      · have hat := hdel.out.at hlt
        have m0 := (hown.out.cellAt (b * 3) (by omega)).trans hat.1
        have m1 := (hown.out.cellAt (b * 3 + 1) (by omega)).trans hat.2.1
        have m2 := (hown.out.cellAt (b * 3 + 2) (by omega)).trans hat.2.2
        have hone := H1.out _ (List.getElem_mem hlt)
        obtain ⟨n0, n1, n2⟩ := hone
        have HC := Lib.hid fun w' (b' : Below wr.heap.size wr w') => HG.out w' (cells3 l[b]) l[b] (HOK.out _ _ hok.out b') ⟨⟨rfl, n0, n1, n2⟩, HGG.out _ (List.getElem_mem hlt)⟩
        have hzr : gb < wr.heap.size := block_lt_of_cell m0
        cases hq : p l[b] with
        | true =>
          have HN := Lib.hid (hdel.out.drop hlt hq)
          rw [hq] at HC
          obtain ⟨c0, hc0⟩ : ∃ c, c = l[b].1 := ⟨_, rfl⟩
          obtain ⟨c1, hc1⟩ : ∃ c, c = l[b].2.1 := ⟨_, rfl⟩
          obtain ⟨c2, hc2⟩ : ∃ c, c = l[b].2.2 := ⟨_, rfl⟩
          rw [show cells3 l[b] = [c0, c1, c2] by rw [hc0, hc1, hc2]; rfl] at HC
          rw [← hc0] at m0 n0
          rw [← hc1] at m1 n1
          rw [← hc2] at m2 n2
          clear hq hat hc0 hc1 hc2
          go_wp2
          refine (HC.out _ (al1 _ _)).mono ?_; rintro e w' ⟨rfl, b'⟩
          go_wp2
          have bt := (al1 wr (.cells #[c0, c1, c2] 35)).nx b'
          refine ⟨⟨a, b + 1, _, by omega, rfl, by go_num, by omega, HN.out, owns_below hown.out bt, hgrow.out.trans ⟨bt.os, bt.tape, bt.output, bt.size, fun k hk _ => bt.block k hk⟩, HOK.out _ _ hok.out bt⟩, ?_⟩
          simp only [intOf]
          omega
        | false =>
          have HN := Lib.hid (hdel.out.keep hlt hq)
          rw [hq] at HC
          obtain ⟨c0, hc0⟩ : ∃ c, c = l[b].1 := ⟨_, rfl⟩
          obtain ⟨c1, hc1⟩ : ∃ c, c = l[b].2.1 := ⟨_, rfl⟩
          obtain ⟨c2, hc2⟩ : ∃ c, c = l[b].2.2 := ⟨_, rfl⟩
          rw [show cells3 l[b] = [c0, c1, c2] by rw [hc0, hc1, hc2]; rfl] at HC HN
          rw [← hc0] at m0 n0
          rw [← hc1] at m1 n1
          rw [← hc2] at m2 n2
          clear hq hat hc0 hc1 hc2
          go_wp2
          refine (HC.out _ (al1 _ _)).mono ?_; rintro e w' ⟨rfl, b'⟩
          have bt := (al1 wr (.cells #[c0, c1, c2] 35)).nx b'
          have y0 := (b'.cell (p := ⟨wr.heap.size, 0, none⟩) (by simp)).trans (show _ = some c0 by simp [go_sem])
          have y1 := (b'.cell (p := ⟨wr.heap.size, 1, none⟩) (by simp)).trans (show _ = some c1 by simp [go_sem])
          have y2 := (b'.cell (p := ⟨wr.heap.size, 2, none⟩) (by simp)).trans (show _ = some c2 by simp [go_sem])
          have ho := owns_below hown.out bt
          have hth := owns_there ho (a * 3) 3 (by omega)
          have hst := owns_storedL [c0, c1, c2] ho (a * 3)
          have HR := Lib.hid hst.1
          have HG2 := Lib.hid ((hgrow.out.trans ⟨bt.os, bt.tape, bt.output, bt.size, fun k hk _ => bt.block k hk⟩).trans hst.2)
          have HK2 := Lib.hid (HOK2.out _ (a * 3) [c0, c1, c2] (HOK.out _ _ hok.out bt))
          clear bt b' ho hst
          go_wp2_with (refine wpList_store_mid rfl _ _ _ rfl gb (a * 3) #[c0, c1, c2] (by simp [go_sem]) (by simp [go_sem]) hth (by kernel_rfl) (by simp [n0, n1, n2]) ?_)
          refine ⟨⟨a + 1, b + 1, _, by omega, by go_num, by go_num, by omega, HN.out, HR.out, HG2.out, HK2.out⟩, ?_⟩
          simp only [intOf]
          omega
      · have hbl : b = l.length := by omega
        subst hbl
        have hd := hdel.out
        have hfe : (l.take l.length) = l := List.take_length
        unfold DelAt at hd
        rw [hfe] at hd
        obtain ⟨-, hd1, -, hd3, -⟩ := hd
        obtain ⟨zs, hzs⟩ : ∃ zs, zs = (Builtin.zeroCells (Value.agg #[.int .i64 0, .slice none 0 0, .slice none 0 0]).cells (l.length - a)).toList := ⟨_, rfl⟩
        have hzl : zs.length = (l.length - a) * 3 := by rw [hzs, Array.length_toList, size_zeroCells]; rfl
        have hth := owns_there hown.out (a * 3) ((l.length - a) * 3) (by omega)
        have hcl : ∀ ty, (Builtin.clear_ #[26] ty #[.slice (some ⟨gb, a * 3, none⟩) (l.length - a) (cap - a)]).run Tryz.prog wr = .ok (.tuple #[]) (wr.setCells gb (a * 3) zs) := fun ty =>
          run_clear_size wr _ _ ty (.agg #[.int .i64 0, .slice none 0 0, .slice none 0 0]) Tryz.underlying26 (fun w => by kernel_rfl) gb (a * 3) _ _ (by omega) zs hzs
            (by rw [hzs]; exact zeroCells_one (by simp [Value.cells, Value.oneCell'])  _) (fun j hj => (hth j (by omega)).1) (fun j hj => (hth j (by omega)).2)
        have hst := owns_storedL zs hown.out (a * 3)
        have hpre := owns_prefix hst.1 (show a ≤ l.length by omega)
        have htk : (setL ys (a * 3) zs).take (a * 3) = ys.take (a * 3) := by
          rw [setL_eq _ _ _ (by rw [hown.out.1, hzl]; omega)]
          exact List.take_left' (by rw [List.length_take, hown.out.1]; omega)
        rw [htk, hd3] at hpre
        have HE := Lib.hid hd1
        have HP := Lib.hid hpre
        have HG3 := Lib.hid (hgrow.out.trans hst.2)
        clear hd1 hd3 hfe hlt hst hpre htk hth hzs hzl
        go_wp2
        exact ⟨rfl, .slice (some ⟨gb, 0, none⟩) a cap, results_tmp (t := 4) rfl _ _ _, _, rfl, by rw [← HE.out]; exact HP.out, rfl, HG3.out⟩
end
end Go.Proofs.YthikfifoomfjgaaGreat
