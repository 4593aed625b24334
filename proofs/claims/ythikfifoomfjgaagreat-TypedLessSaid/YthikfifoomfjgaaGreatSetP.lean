/- Contract of slices.DeleteFunc at elements of three cells, at whatever function value. Contract of slices.Insert at elements of three cells, of one value that lies in a block of its own. Rows of three-cell elements, and lists that they read as, element by element. Contract of value.Set. -/
import Derived.Test.YthikfifoomfjgaaGreatRow
import Derived.Test.YthikfifoomfjgaaGreatFunc
import Derived.Test.YthikfifoomfjgaaGreatEach
import Derived.Lib.Overlaps
import Derived.Laws.Externs
import Derived.IntWalk
import Derived.Test.YthikfifoomfjgaaGreatGet
import Derived.Deep.RegionWith
namespace Go.Tr
set_option linter.unusedVariables false
set_option linter.unusedSimpArgs false
def flat (l : List Cell3) : List Value := l.flatMap cells3
theorem flat_cons (t : Cell3) (l : List Cell3) : flat (t :: l) = cells3 t ++ flat l := rfl
theorem flat_app (a b : List Cell3) : flat (a ++ b) = flat a ++ flat b := by simp [flat]
theorem flat_length (l : List Cell3) : (flat l).length = l.length * 3 := by
  induction l with
  | nil => rfl
  | cons t l ih => rw [flat_cons, List.length_append, ih, List.length_cons]; simp [cells3]; omega
theorem flat_take (l : List Cell3) (i : Nat) : (flat l).take (i * 3) = flat (l.take i) := by
  induction l generalizing i with
  | nil => simp [flat]
  | cons t l ih =>
    cases i with
    | zero => simp [flat]
    | succ i => rw [flat_cons, List.take_succ_cons, flat_cons, ← ih, show (i + 1) * 3 = (cells3 t).length + i * 3 by simp [cells3]; omega, List.take_length_add_append]
theorem flat_drop (l : List Cell3) (i : Nat) : (flat l).drop (i * 3) = flat (l.drop i) := by
  induction l generalizing i with
  | nil => simp [flat]
  | cons t l ih =>
    cases i with
    | zero => simp
    | succ i => rw [flat_cons, List.drop_succ_cons, ← ih, show (i + 1) * 3 = (cells3 t).length + i * 3 by simp [cells3]; omega, List.drop_length_add_append]
theorem flat_get (l : List Cell3) (i : Nat) (h : i < l.length) : (flat l)[i * 3]? = some l[i].1 ∧ (flat l)[i * 3 + 1]? = some l[i].2.1 ∧ (flat l)[i * 3 + 2]? = some l[i].2.2 := by
  have e : flat (l.drop i) = cells3 l[i] ++ flat (l.drop (i + 1)) := by rw [List.drop_eq_getElem_cons h, flat_cons]
  have g : ∀ j, j < 3 → (flat l)[i * 3 + j]? = (cells3 l[i])[j]? := fun j hj => by
    rw [← List.getElem?_drop, flat_drop, e, List.getElem?_append_left (by simp [cells3]; omega)]
  exact ⟨g 0 (by omega), g 1 (by omega), g 2 (by omega)⟩
theorem flat_one {l : List Cell3} (h : ∀ t ∈ l, t.1.oneCell' = true ∧ t.2.1.oneCell' = true ∧ t.2.2.oneCell' = true) : ∀ u ∈ flat l, u.oneCell' = true := by
  intro u hu
  obtain ⟨t, ht, hu⟩ := List.mem_flatMap.1 hu
  obtain ⟨h1, h2, h3⟩ := h t ht
  simp only [cells3, List.mem_cons, List.not_mem_nil, or_false] at hu
  rcases hu with rfl | rfl | rfl <;> assumption
/-- A row of one's own that holds these. -/
theorem owns_row3 {w : World} {base : Nat} {e : TypeId} {v : Value} {l : List Cell3} (h : w.ownsRow base e 3 v l.length (flat l)) (hl : l.length ≤ maxLen) (h1 : ∀ t ∈ l, t.1.oneCell' = true ∧ t.2.1.oneCell' = true ∧ t.2.2.oneCell' = true) :
    RowOf l.length 0 w 3 R3 v l := by
  refine Has.row (e := e) (B := base) (R := R3) ⟨flat l, h, fun i hi _ => ⟨cells3 l[i], rfl, fun j u hu => ?_, rfl, h1 _ (List.getElem_mem hi)⟩⟩ (Nat.le_refl _) (Nat.zero_le _) (Keeps.refl _ _) (fun _ _ _ h => h)
  have hg := flat_get l i hi
  have hj : j < 3 := by have := (List.getElem?_eq_some_iff.1 hu).1; simpa [cells3] using this
  match j, hj with
  | 0, _ => rw [Nat.add_zero, hg.1]; simpa [cells3] using hu
  | 1, _ => rw [hg.2.1]; simpa [cells3] using hu
  | 2, _ => rw [hg.2.2]; simpa [cells3] using hu
/-- The state of DeleteFunc's loop, plain: so many are kept, so many are seen. -/
def DelAt (p : Cell3 → Bool) (l : List Cell3) (ys : List Value) (i j : Nat) : Prop :=
  ys.length = l.length * 3 ∧ i = ((l.take j).filter fun t => !p t).length ∧ i < j ∧ ys.take (i * 3) = flat ((l.take j).filter fun t => !p t) ∧ ys.drop (j * 3) = flat (l.drop j)
theorem DelAt.start (p : Cell3 → Bool) (l : List Cell3) (k : Nat) (hk : k < l.length) (h : p l[k] = true) (hb : ∀ j (hj : j < l.length), j < k → p l[j] = false) : DelAt p l (flat l) k (k + 1) := by
  have e : ((l.take (k + 1)).filter fun t => !p t) = l.take k := by
    rw [List.take_succ_eq_append_getElem hk, List.filter_append]
    have : ∀ t ∈ l.take k, (!p t) = true := fun t ht => by
      obtain ⟨j, hj, rfl⟩ := List.mem_iff_getElem.1 ht
      rw [List.getElem_take]
      simp [hb j (by simp at hj; omega) (by simp at hj; omega)]
    rw [List.filter_eq_self.2 this]
    simp [h]
  refine ⟨flat_length l, ?_, by omega, ?_, flat_drop _ _⟩
  · rw [e]; simp; omega
  · rw [e, flat_take]
theorem DelAt.keep {p : Cell3 → Bool} {l : List Cell3} {ys : List Value} {i j : Nat} (h : DelAt p l ys i j) (hj : j < l.length) (hp : p l[j] = false) : DelAt p l (setL ys (i * 3) (cells3 l[j])) (i + 1) (j + 1) := by
  obtain ⟨h0, h1, h2, h3, h4⟩ := h
  have e : ((l.take (j + 1)).filter fun t => !p t) = ((l.take j).filter fun t => !p t) ++ [l[j]] := by
    rw [List.take_succ_eq_append_getElem hj, List.filter_append]; simp [hp]
  have hc : (cells3 l[j]).length = 3 := rfl
  have hij : i * 3 + 3 ≤ j * 3 := by omega
  have hjl : j * 3 + 3 ≤ l.length * 3 := by omega
  refine ⟨by rw [setL_length, h0], by rw [e, List.length_append, ← h1]; rfl, by omega, ?_, ?_⟩
  · rw [setL_eq _ _ _ (by rw [hc, h0]; omega), e, flat_app, ← h3, hc]
    rw [show (i + 1) * 3 = (ys.take (i * 3)).length + 3 by rw [List.length_take, h0]; omega, List.take_length_add_append, List.take_left' hc]
    simp [flat]
  · have : ∀ q, (j + 1) * 3 ≤ q → (setL ys (i * 3) (cells3 l[j]))[q]? = ys[q]? := fun q hq => by
      rw [setL_get _ _ _ _ (by rw [hc, h0]; omega), if_neg (by rw [hc]; omega)]
    have h5 : ys.drop ((j + 1) * 3) = flat (l.drop (j + 1)) := by
      have : ys.drop ((j + 1) * 3) = (ys.drop (j * 3)).drop 3 := by rw [List.drop_drop]; congr 1; omega
      rw [this, h4, show (3 : Nat) = 1 * 3 by rfl, flat_drop, List.drop_drop]
    rw [← h5]
    apply List.ext_getElem?
    intro q
    rw [List.getElem?_drop, List.getElem?_drop, this _ (by omega)]
theorem DelAt.drop {p : Cell3 → Bool} {l : List Cell3} {ys : List Value} {i j : Nat} (h : DelAt p l ys i j) (hj : j < l.length) (hp : p l[j] = true) : DelAt p l ys i (j + 1) := by
  obtain ⟨h0, h1, h2, h3, h4⟩ := h
  have e : ((l.take (j + 1)).filter fun t => !p t) = ((l.take j).filter fun t => !p t) := by
    rw [List.take_succ_eq_append_getElem hj, List.filter_append]; simp [hp]
  refine ⟨h0, by rw [e]; exact h1, by omega, by rw [e]; exact h3, ?_⟩
  have : ys.drop ((j + 1) * 3) = (ys.drop (j * 3)).drop 3 := by rw [List.drop_drop]; congr 1; omega
  rw [this, h4, show (3 : Nat) = 1 * 3 by rfl, flat_drop, List.drop_drop]
theorem DelAt.at {p : Cell3 → Bool} {l : List Cell3} {ys : List Value} {i j : Nat} (h : DelAt p l ys i j) (hj : j < l.length) : ys[j * 3]? = some l[j].1 ∧ ys[j * 3 + 1]? = some l[j].2.1 ∧ ys[j * 3 + 2]? = some l[j].2.2 := by
  obtain ⟨h0, h1, h2, h3, h4⟩ := h
  have hg := flat_get (l.drop j) 0 (by simp; omega)
  rw [← h4] at hg
  simp only [List.getElem?_drop, List.getElem_drop, Nat.zero_mul, Nat.zero_add, Nat.add_zero] at hg
  exact hg
theorem filter_none {p : Cell3 → Bool} {l : List Cell3} (h : ∀ j (hj : j < l.length), p l[j] = false) : (l.filter fun t => !p t) = l :=
  List.filter_eq_self.2 fun t ht => by obtain ⟨j, hj, rfl⟩ := List.mem_iff_getElem.1 ht; simp [h j hj]
end Go.Tr
namespace Go.Proofs.YthikfifoomfjgaaGreat
open Go.RowKit Go.Tr
set_option linter.unusedVariables false
set_option linter.unusedSimpArgs false
section
attribute [local go_sem] run_store
set_option maxHeartbeats 2000000 in
theorem deleteFunc_slot (base : Nat) (p : Cell3 → Bool) (g : Nat) (caps : Array Value) (eg : ∀ args w, (callFunc g args).run Tryz.prog w = .ok (.enter g args) w)
    (Ok : World → Prop) (hOk : ∀ w w', Ok w → Below w.heap.size w w' → Ok w')
    (G : Cell3 → Prop) (hg : ∀ w cs x, Ok w → R3 cs x ∧ G x → Calls Tryz.prog g (#[.agg cs.toArray] ++ caps) w fun e w' => e = .returned (.bool (p x)) ∧ Below w.heap.size w w')
    (w : World) (v : Value) (l : List Cell3) (h1 : ∀ t ∈ l, t.1.oneCell' = true ∧ t.2.1.oneCell' = true ∧ t.2.2.oneCell' = true) (hG : ∀ t ∈ l, G t) (hl : l.length ≤ 1099511627776)
    (hown : w.ownsRow base 35 3 v l.length (flat l)) (hok : Ok w) (hOk2 : ∀ w b o ds, v.ownBlock = some b → Ok w → Ok (w.setCells b o ds)) :
    Calls Tryz.prog 49 #[v, .func (.func g) #[] caps] w fun e w' => ∃ v', e = .returned v' ∧
      w'.ownsRow base 35 3 v' (l.filter fun t => !p t).length (flat (l.filter fun t => !p t)) ∧ v'.ownBlock = v.ownBlock ∧ w.grownBy w' v.ownBlock := by
  have HI := Lib.hid fun w' (hb : Below w.heap.size w w') => indexFunc_slot l.length 0 (by unfold maxLen; omega) (fun _ cs x => R3 cs x ∧ G x) (fun _ _ _ _ _ h => h) (fun w cs x h => r3_three w cs x h.1) p g caps eg Ok hOk hg w' v l ((owns_row3 (owns_below hown hb) (by unfold maxLen; omega) h1).imp (Below.refl _ _) fun cs x hx h => ⟨h, hG x hx⟩) (hOk _ _ hok hb)
  have HO := Lib.hid hown
  have hcase : (v = .slice none 0 0 ∧ l = []) ∨ ∃ gb cap, v = .slice (some ⟨gb, 0, none⟩) l.length cap ∧ l.length ≤ cap ∧ cap ≤ maxLen ∧ gb < w.heap.size := by
    rcases hown.2 with ⟨h, hn⟩ | ⟨gb, cap, cur, h, -, hc, h2, h3, -⟩
    · exact .inl ⟨h, List.eq_nil_of_length_eq_zero hn⟩
    · exact .inr ⟨gb, cap, h, h2, h3, by subst h; exact (hown.lt gb rfl).2⟩
  rcases idxOf_cases p l with ⟨hi, hall⟩ | ⟨k, hk, hi, hp, hb⟩
  · have HF := Lib.hid (filter_none hall)
    rw [hi] at HI
    clear hi hall hown hcase
    go_enter Tryz.func49, Tryz.ntmps49
    go_wp2_with (go_at_call 45; (with_reducible refine (HI.out _ (Below.refl _ _)).mono ?_); rintro e w' ⟨rfl, b'⟩)
    exact ⟨rfl, v, results_tmp (t := 4) rfl _ _ _, v, rfl, by rw [HF.out]; exact owns_below HO.out b', rfl, ⟨b'.os, b'.tape, b'.output, b'.size, fun k hk _ => b'.block k hk⟩⟩
  · rcases hcase with ⟨-, rfl⟩ | ⟨gb, cap, rfl, hc1, hc2, hgb⟩
    · simp at hk
    rw [hi] at HI
    unfold maxLen at hc2
    have HS := Lib.hid (DelAt.start p l k hk hp hb)
    clear hi hown hp hb
    have HOK := Lib.hid hOk
    have HOK2 := Lib.hid fun w o ds => hOk2 w gb o ds rfl
    have HG := Lib.hid hg
    have H1 := Lib.hid h1
    have HGG := Lib.hid hG
    have HK := Lib.hid hok
    clear hOk hOk2 hg h1 hok hG
    have hne : decide ((k : Int) = -1) = false := by simp
    have hne2 : ((k : Int) == -1) = false := by simp
    go_enter Tryz.func49, Tryz.ntmps49
    go_wp2_with (go_at_call 45; (with_reducible refine (HI.out _ (Below.refl _ _)).mono ?_); rintro e w1 ⟨rfl, b1⟩)
    have HB1 := Lib.hid b1
    clear b1
    go_loopw [5, 6] (fun i j wr => ∃ (a b : Nat) (ys : List Value), b ≤ l.length ∧ i = .int .i64 a ∧ j = .int .i64 b ∧ a < b ∧ Hid (DelAt p l ys a b) ∧ Hid (wr.ownsRow base 35 3 (.slice (some ⟨gb, 0, none⟩) l.length cap) l.length ys) ∧ Hid (w.grownBy wr (some gb)) ∧ Hid (Ok wr)) (fun i j _ => l.length - (intOf j).toNat)
    case atStart => exact ⟨k, k + 1, _, by omega, rfl, by go_num, by omega, HS.out, owns_below HO.out HB1.out, ⟨HB1.out.os, HB1.out.tape, HB1.out.output, HB1.out.size, fun k hk _ => HB1.out.block k hk⟩, HOK.out _ _ HK.out HB1.out⟩
    case round =>
      obtain ⟨a, b, ys, hb, rfl, rfl, hab, hdel, hown, hgrow, hok⟩ := hrel
      by_cases hlt : b < l.length
      · have hat := hdel.out.at hlt
        have m0 := (hown.out.cellAt (b * 3) (by omega)).trans hat.1
        have m1 := (hown.out.cellAt (b * 3 + 1) (by omega)).trans hat.2.1
        have m2 := (hown.out.cellAt (b * 3 + 2) (by omega)).trans hat.2.2
        have hone := H1.out _ (List.getElem_mem hlt)
        obtain ⟨n0, n1, n2⟩ := hone
        have HC := Lib.hid fun w' (b' : Below wr.heap.size wr w') => HG.out w' (cells3 l[b]) l[b] (HOK.out _ _ hok.out b') ⟨⟨rfl, n0, n1, n2⟩, HGG.out _ (List.getElem_mem hlt)⟩
        have hzr : gb < wr.heap.size := block_lt_of_cell m0
        cases hq : p l[b] with
        | true =>
          have HN := Lib.hid (hdel.out.drop hlt hq)
          rw [hq] at HC
          obtain ⟨c0, hc0⟩ : ∃ c, c = l[b].1 := ⟨_, rfl⟩
          obtain ⟨c1, hc1⟩ : ∃ c, c = l[b].2.1 := ⟨_, rfl⟩
          obtain ⟨c2, hc2⟩ : ∃ c, c = l[b].2.2 := ⟨_, rfl⟩
          rw [show cells3 l[b] = [c0, c1, c2] by rw [hc0, hc1, hc2]; rfl] at HC
          rw [← hc0] at m0 n0
          rw [← hc1] at m1 n1
          rw [← hc2] at m2 n2
          clear hq hat hc0 hc1 hc2
          go_wp2
          refine (HC.out _ (al1 _ _)).mono ?_; rintro e w' ⟨rfl, b'⟩
          go_wp2
          have bt := (al1 wr (.cells #[c0, c1, c2] 35)).nx b'
          refine ⟨⟨a, b + 1, _, by omega, rfl, by go_num, by omega, HN.out, owns_below hown.out bt, hgrow.out.trans ⟨bt.os, bt.tape, bt.output, bt.size, fun k hk _ => bt.block k hk⟩, HOK.out _ _ hok.out bt⟩, ?_⟩
          simp only [intOf]
          omega
        | false =>
          have HN := Lib.hid (hdel.out.keep hlt hq)
          rw [hq] at HC
          obtain ⟨c0, hc0⟩ : ∃ c, c = l[b].1 := ⟨_, rfl⟩
          obtain ⟨c1, hc1⟩ : ∃ c, c = l[b].2.1 := ⟨_, rfl⟩
          obtain ⟨c2, hc2⟩ : ∃ c, c = l[b].2.2 := ⟨_, rfl⟩
          rw [show cells3 l[b] = [c0, c1, c2] by rw [hc0, hc1, hc2]; rfl] at HC HN
          rw [← hc0] at m0 n0
          rw [← hc1] at m1 n1
          rw [← hc2] at m2 n2
          clear hq hat hc0 hc1 hc2
          go_wp2
          refine (HC.out _ (al1 _ _)).mono ?_; rintro e w' ⟨rfl, b'⟩
          have bt := (al1 wr (.cells #[c0, c1, c2] 35)).nx b'
          have y0 := (b'.cell (p := ⟨wr.heap.size, 0, none⟩) (by simp)).trans (show _ = some c0 by simp [go_sem])
          have y1 := (b'.cell (p := ⟨wr.heap.size, 1, none⟩) (by simp)).trans (show _ = some c1 by simp [go_sem])
          have y2 := (b'.cell (p := ⟨wr.heap.size, 2, none⟩) (by simp)).trans (show _ = some c2 by simp [go_sem])
          have ho := owns_below hown.out bt
          have hth := owns_there ho (a * 3) 3 (by omega)
          have hst := owns_storedL [c0, c1, c2] ho (a * 3)
          have HR := Lib.hid hst.1
          have HG2 := Lib.hid ((hgrow.out.trans ⟨bt.os, bt.tape, bt.output, bt.size, fun k hk _ => bt.block k hk⟩).trans hst.2)
          have HK2 := Lib.hid (HOK2.out _ (a * 3) [c0, c1, c2] (HOK.out _ _ hok.out bt))
          clear bt b' ho hst
          go_wp2_with (refine wpList_store_mid rfl _ _ _ rfl gb (a * 3) #[c0, c1, c2] (by simp [go_sem]) (by simp [go_sem]) hth (by kernel_rfl) (by simp [n0, n1, n2]) ?_)
          refine ⟨⟨a + 1, b + 1, _, by omega, by go_num, by go_num, by omega, HN.out, HR.out, HG2.out, HK2.out⟩, ?_⟩
          simp only [intOf]
          omega
      · have hbl : b = l.length := by omega
        subst hbl
        have hd := hdel.out
        have hfe : (l.take l.length) = l := List.take_length
        unfold DelAt at hd
        rw [hfe] at hd
        obtain ⟨-, hd1, -, hd3, -⟩ := hd
        obtain ⟨zs, hzs⟩ : ∃ zs, zs = (Builtin.zeroCells (Value.agg #[.int .i64 0, .slice none 0 0, .slice none 0 0]).cells (l.length - a)).toList := ⟨_, rfl⟩
        have hzl : zs.length = (l.length - a) * 3 := by rw [hzs, Array.length_toList, size_zeroCells]; rfl
        have hth := owns_there hown.out (a * 3) ((l.length - a) * 3) (by omega)
        have hcl : ∀ ty, (Builtin.clear_ #[26] ty #[.slice (some ⟨gb, a * 3, none⟩) (l.length - a) (cap - a)]).run Tryz.prog wr = .ok (.tuple #[]) (wr.setCells gb (a * 3) zs) := fun ty =>
          run_clear_size wr _ _ ty (.agg #[.int .i64 0, .slice none 0 0, .slice none 0 0]) Tryz.underlying26 (fun w => by kernel_rfl) gb (a * 3) _ _ (by omega) zs hzs
            (by rw [hzs]; exact zeroCells_one (by simp [Value.cells, Value.oneCell'])  _) (fun j hj => (hth j (by omega)).1) (fun j hj => (hth j (by omega)).2)
        have hst := owns_storedL zs hown.out (a * 3)
        have hpre := owns_prefix hst.1 (show a ≤ l.length by omega)
        have htk : (setL ys (a * 3) zs).take (a * 3) = ys.take (a * 3) := by
          rw [setL_eq _ _ _ (by rw [hown.out.1, hzl]; omega)]
          exact List.take_left' (by rw [List.length_take, hown.out.1]; omega)
        rw [htk, hd3] at hpre
        have HE := Lib.hid hd1
        have HP := Lib.hid hpre
        have HG3 := Lib.hid (hgrow.out.trans hst.2)
        clear hd1 hd3 hfe hlt hst hpre htk hth hzs hzl
        go_wp2
        exact ⟨rfl, .slice (some ⟨gb, 0, none⟩) a cap, results_tmp (t := 4) rfl _ _ _, _, rfl, by rw [← HE.out]; exact HP.out, rfl, HG3.out⟩
end
end Go.Proofs.YthikfifoomfjgaaGreat
namespace Go.Tr
set_option linter.unusedVariables false
set_option linter.unusedSimpArgs false
def inserted (l : List Cell3) (i : Nat) (t : Cell3) : List Cell3 := l.take i ++ t :: l.drop i
theorem flat_ins (l : List Cell3) (i : Nat) (t : Cell3) : flat (inserted l i t) = flat (l.take i) ++ (cells3 t ++ flat (l.drop i)) := by rw [inserted, flat_app, flat_cons]
theorem ins_len (l : List Cell3) (i : Nat) (t : Cell3) (hi : i ≤ l.length) : (inserted l i t).length = l.length + 1 := by simp [inserted]; omega
theorem ins_up (l : List Cell3) (i : Nat) (t : Cell3) (hi : i ≤ l.length) (ys : List Value) (hy : ys.length = (l.length + 1) * 3) (ht : ys.take (i * 3) = flat (l.take i)) :
    setL (setL ys (i * 3) (cells3 t)) ((i + 1) * 3) (flat (l.drop i)) = flat (inserted l i t) := by
  have hd : (flat (l.drop i)).length = (l.length - i) * 3 := by rw [flat_length, List.length_drop]
  have hc : (cells3 t).length = 3 := rfl
  have hti : (ys.take (i * 3)).length = i * 3 := by rw [List.length_take, hy]; omega
  have l1 : (ys.take (i * 3) ++ cells3 t).length = (i + 1) * 3 := by rw [List.length_append, hti, hc]; omega
  have hdl : (ys.drop (i * 3 + (cells3 t).length)).length = (l.length - i) * 3 := by rw [List.length_drop, hc, hy]; omega
  rw [flat_ins, ← ht]
  generalize flat (l.drop i) = fd at hd ⊢
  rw [setL_eq fd _ _ (by rw [setL_length, hd, hy]; omega), setL_eq (cells3 t) ys _ (by rw [hc, hy]; omega)]
  rw [← List.append_assoc (ys.take (i * 3)), List.take_left' l1, List.drop_eq_nil_of_le (by rw [List.length_append, l1, hdl, hd]; omega), List.append_nil, List.append_assoc]
theorem ins_down (l : List Cell3) (i : Nat) (t : Cell3) (hi : i ≤ l.length) (ys : List Value) (hy : ys.length = (l.length + 1) * 3) (ht : ys.take (i * 3) = flat (l.take i)) :
    setL (setL ys ((i + 1) * 3) (flat (l.drop i))) (i * 3) (cells3 t) = flat (inserted l i t) := by
  rw [← ins_up l i t hi ys hy ht]
  have hd : (flat (l.drop i)).length = (l.length - i) * 3 := by rw [flat_length, List.length_drop]
  have hc : (cells3 t).length = 3 := rfl
  apply List.ext_getElem?
  intro j
  rw [setL_get _ _ _ _ (by rw [setL_length, hc, hy]; omega), setL_get _ _ _ _ (by rw [hd, hy]; omega), setL_get _ _ _ _ (by rw [setL_length, hd, hy]; omega), setL_get _ _ _ _ (by rw [hc, hy]; omega), hc, hd]
  by_cases h1 : i * 3 ≤ j ∧ j < i * 3 + 3
  · rw [if_pos h1, if_neg (by omega), if_pos h1]
  · rw [if_neg h1]
    by_cases h2 : (i + 1) * 3 ≤ j ∧ j < (i + 1) * 3 + (l.length - i) * 3
    · rw [if_pos h2, if_pos h2]
    · rw [if_neg h2, if_neg h2, if_neg h1]
/-- The cells of a slice of a row. -/
theorem owns_src {w : World} {base n cap g size : Nat} {e : TypeId} {ys : List Value} (h : w.ownsRow base e size (.slice (some ⟨g, 0, none⟩) n cap) n ys) (o : Nat) (cs : List Value) (hc : ∀ j u, cs[j]? = some u → ys[o + j]? = some u) :
    ∀ j u, cs[j]? = some u → w.cell? ((⟨g, o, none⟩ : Addr).add j) = some u := fun j u hu => by
  have h1 := hc j u hu
  have hlt := (List.getElem?_eq_some_iff.1 h1).1
  have hadd : (⟨g, o, none⟩ : Addr).add j = ⟨g, o + j, none⟩ := by unfold Addr.add; split <;> simp_all
  rw [hadd, h.cellAt _ (by rw [← h.1]; exact hlt)]
  exact h1
theorem block_src {w : World} {g : Nat} {cs : List Value} {e : TypeId} (h : w.heap[g]? = some (.cells cs.toArray e (0, 0))) : ∀ j u, cs[j]? = some u → w.cell? ((⟨g, 0, none⟩ : Addr).add j) = some u := fun j u hu => by
  have hadd : (⟨g, 0, none⟩ : Addr).add j = ⟨g, j, none⟩ := by unfold Addr.add; split <;> simp_all
  rw [hadd, cell_of_row w g j cs.toArray e (0, 0) h]
  simpa using hu
end Go.Tr
namespace Go.Proofs.YthikfifoomfjgaaGreat
open Go.RowKit Go.Tr
set_option maxRecDepth 100000
set_option linter.unusedVariables false
set_option linter.unusedSimpArgs false
section
attribute [local go_sem] run_store
set_option maxHeartbeats 2000000 in
theorem insert_end (base : Nat) (w : World) (v : Value) (l : List Cell3) (h1 : ∀ t ∈ l, t.1.oneCell' = true ∧ t.2.1.oneCell' = true ∧ t.2.2.oneCell' = true) (hl : l.length ≤ 1048576)
    (hown : w.ownsRow base 35 3 v l.length (flat l)) (t : Cell3) (vb : Nat) (hvb : w.heap[vb]? = some (.cells (cells3 t).toArray 35 (0, 0))) (ht : t.1.oneCell' = true ∧ t.2.1.oneCell' = true ∧ t.2.2.oneCell' = true) (hne : v.ownBlock ≠ some vb) (hbase : base ≤ w.heap.size) :
    Calls Tryz.prog 52 #[v, .int .i64 l.length, .slice (some ⟨vb, 0, none⟩) 1 1] w fun e w' => ∃ v', e = .returned v' ∧
      w'.ownsRow base 35 3 v' (l.length + 1) (flat l ++ cells3 t) ∧ w.grownBy w' v.ownBlock := by
  have hsrc := block_src hvb
  obtain ⟨i3, hi3, hz3, hs3, hb3⟩ := info_parts (P := Tryz.prog) (e := 35) (z := .agg #[.int .i64 0, .slice none 0 0, .slice none 0 0]) (size := 3) (bytes := 56) (by kernel_rfl)
  have z3 : (Value.agg #[.int .i64 0, .slice none 0 0, .slice none 0 0]).cells.size = 3 := rfl
  have HO := Lib.hid hown
  have HS := Lib.hid hsrc
  have hone : ∀ u ∈ cells3 t, u.oneCell' = true := by simp [cells3, ht]
  have H1 := Lib.hid hone
  have hcase : (v = .slice none 0 0 ∧ l = []) ∨ ∃ gb cap, v = .slice (some ⟨gb, 0, none⟩) l.length cap ∧ l.length ≤ cap ∧ cap ≤ maxLen := by
    rcases hown.2 with ⟨h, hn⟩ | ⟨gb, cap, cur, h, -, hc, h2, h3, -⟩
    · exact .inl ⟨h, List.eq_nil_of_length_eq_zero hn⟩
    · exact .inr ⟨gb, cap, h, h2, h3⟩
  clear hvb hown hsrc hone h1 ht
  rcases hcase with ⟨rfl, rfl⟩ | ⟨gb, cap, rfl, hc1, hc2⟩
  · simp only [List.length_nil] at hl HO ⊢
    go_enter Tryz.func52, Tryz.ntmps52
    go_wp2_with (at_builtin; (refine wpList_append_own _ rfl _ _ 26 rfl base 35 i3 _ 3 56 Tryz.underlying26 hi3 hz3 hs3 hb3 z3 (by omega) _ _ _ rfl HO.out ⟨vb, 0, none⟩ 1 1 (cells3 t) rfl rfl HS.out H1.out (by unfold maxLen; omega) (by omega) hbase ?_); intro v' w1 hown1 hgrow1 _; (have HO1 := Lib.hid hown1); (have HG1 := Lib.hid hgrow1); clear hown1 hgrow1)
    exact ⟨rfl, v', results_tmp (t := 6) rfl _ _ _, _, rfl, HO1.out, HG1.out⟩
  · unfold maxLen at hc2
    by_cases hcl : cap = l.length
    · subst hcl
      go_enter Tryz.func52, Tryz.ntmps52
      go_wp2_with (at_builtin; (refine wpList_append_own _ rfl _ _ 26 rfl base 35 i3 _ 3 56 Tryz.underlying26 hi3 hz3 hs3 hb3 z3 (by omega) _ _ _ rfl HO.out ⟨vb, 0, none⟩ 1 1 (cells3 t) rfl rfl HS.out H1.out (by unfold maxLen; omega) (by omega) hbase ?_); intro v' w1 hown1 hgrow1 _; (have HO1 := Lib.hid hown1); (have HG1 := Lib.hid hgrow1); clear hown1 hgrow1)
      exact ⟨rfl, v', results_tmp (t := 6) rfl _ _ _, _, rfl, HO1.out, HG1.out⟩
    · have hlt : l.length < cap := by omega
      go_enter Tryz.func52, Tryz.ntmps52
      go_wp2_with (at_builtin; (refine wpList_append_own _ rfl _ _ 26 rfl base 35 i3 _ 3 56 Tryz.underlying26 hi3 hz3 hs3 hb3 z3 (by omega) _ _ _ rfl HO.out ⟨vb, 0, none⟩ 1 1 (cells3 t) rfl rfl HS.out H1.out (by unfold maxLen; omega) (by omega) hbase ?_); intro v' w1 hown1 hgrow1 _; (have HO1 := Lib.hid hown1); (have HG1 := Lib.hid hgrow1); clear hown1 hgrow1)
      exact ⟨rfl, v', results_tmp (t := 6) rfl _ _ _, _, rfl, HO1.out, HG1.out⟩
set_option maxHeartbeats 2000000 in
theorem insert_grow (base : Nat) (w : World) (gb cap i : Nat) (l : List Cell3) (h1 : ∀ t ∈ l, t.1.oneCell' = true ∧ t.2.1.oneCell' = true ∧ t.2.2.oneCell' = true) (hl : l.length ≤ 1048576) (hi : i < l.length) (hroom : cap < l.length + 1)
    (hown : w.ownsRow base 35 3 (.slice (some ⟨gb, 0, none⟩) l.length cap) l.length (flat l)) (t : Cell3) (vb : Nat) (hvb : w.heap[vb]? = some (.cells (cells3 t).toArray 35 (0, 0))) (ht : t.1.oneCell' = true ∧ t.2.1.oneCell' = true ∧ t.2.2.oneCell' = true) (hbase : base ≤ w.heap.size) :
    Calls Tryz.prog 52 #[.slice (some ⟨gb, 0, none⟩) l.length cap, .int .i64 i, .slice (some ⟨vb, 0, none⟩) 1 1] w fun e w' => ∃ v', e = .returned v' ∧
      w'.ownsRow base 35 3 v' (inserted l i t).length (flat (inserted l i t)) ∧ w.grownBy w' (some gb) := by
  have hcap : l.length ≤ cap := by
    rcases hown.2 with ⟨h, -⟩ | ⟨gb', cap', cur, h, -, hc, h2, h3, -⟩
    · cases h
    · cases h; exact h2
  obtain ⟨i3, hi3, hz3, hs3, hb3⟩ := info_parts (P := Tryz.prog) (e := 35) (z := .agg #[.int .i64 0, .slice none 0 0, .slice none 0 0]) (size := 3) (bytes := 56) (by kernel_rfl)
  have z3 : (Value.agg #[.int .i64 0, .slice none 0 0, .slice none 0 0]).cells.size = 3 := rfl
  have hc3 : (cells3 t).length = 3 := rfl
  obtain ⟨v', w1, zs, hrun, ho1, hb1, cap', rfl⟩ := run_append_make (P := Tryz.prog) w base 26 3 26 35 i3 _ .i64 .i64 3 56 Tryz.underlying26 Tryz.underlying3 hi3 hz3 hs3 hb3 z3 (by omega) ⟨gb, 0, none⟩ i cap (l.length + 1 - i) (flat (l.take i)) (by rw [flat_length, List.length_take]; omega)
    (owns_src hown 0 _ fun j u hu => by rw [← flat_take, List.getElem?_take] at hu; split at hu; (· simpa using hu); (· cases hu)) (by omega) (by omega) (by unfold maxLen; omega) (by omega) hbase
  have hn1 : i + (l.length + 1 - i) = l.length + 1 := by omega
  rw [hn1] at ho1 hrun
  have hvb1 := hb1.block vb (Array.getElem?_eq_some_iff.1 hvb).1
  have ho2 := owns_below hown hb1
  have hcap' : l.length + 1 ≤ cap' ∧ cap' ≤ maxLen := by
    rcases ho1.2 with ⟨h, -⟩ | ⟨gb', cap', cur, h, -, hc, h2, h3, -⟩
    · cases h
    · cases h; exact ⟨h2, h3⟩
  have hone : ∀ u ∈ cells3 t, u.oneCell' = true := by simp [cells3, ht]
  have hth1 := owns_there ho1 (i * 3) 3 (by omega)
  have hs1 := owns_storedL (cells3 t) ho1 (i * 3)
  have hk1 := run_copy_size (P := Tryz.prog) w1 26 26 3 35 i3 3 w.heap.size (i * 3) (l.length + 1 - i) (cap' - i) ⟨vb, 0, none⟩ 1 1 (cells3 t) Tryz.underlying26 hi3 hs3 1 (by simp [Nat.min_def]; omega) rfl (block_src (hvb1 ▸ hvb)) (fun j hj => (hth1 j hj).1) (fun j hj => (hth1 j hj).2) hone
  generalize hw2 : w1.setCells w.heap.size (i * 3) (cells3 t) = w2 at hs1 hk1
  have ho3 := ho2.kept hs1.2 (by simp [Value.ownBlock]; have := (hown.lt gb rfl).2; omega)
  have ho3d := owns_below ho3 ((Below.refl w2.heap.size w2).drew)
  have hs1d := owns_below hs1.1 ((Below.refl w2.heap.size w2).drew)
  have hth2 := owns_there hs1d ((i + 1) * 3) ((l.length - i) * 3) (by omega)
  have hfl : (flat (l.drop i)).length = (l.length - i) * 3 := by rw [flat_length, List.length_drop]
  have hk2 := run_copy_size (P := Tryz.prog) w2.drew 26 26 3 35 i3 3 w.heap.size ((i + 1) * 3) (l.length + 1 - (i + 1)) (cap' - (i + 1)) ⟨gb, i * 3, none⟩ (l.length - i) (cap - i) (flat (l.drop i)) Tryz.underlying26 hi3 hs3 (l.length - i) (by simp [Nat.min_def] <;> omega) hfl
    (owns_src ho3d (i * 3) _ fun j u hu => by rw [← flat_drop, List.getElem?_drop] at hu; exact hu) (fun j hj => (hth2 j (by omega)).1) (fun j hj => (hth2 j (by omega)).2) (flat_one fun x hx => h1 x (List.mem_of_mem_drop hx))
  have hs2 := owns_storedL (flat (l.drop i)) hs1d ((i + 1) * 3)
  generalize hw3 : w2.drew.setCells w.heap.size ((i + 1) * 3) (flat (l.drop i)) = w3 at hs2 hk2
  rw [ins_up l i t (by omega) _ (by rw [ho1.1]) (List.take_left' (by rw [flat_length, List.length_take]; omega))] at hs2
  have hg : w.grownBy w3 (some gb) := by
    have hgb := (hown.lt gb rfl).2
    have z1 := hb1.size
    have z2 := hs1.2.size
    have z3 := hs2.2.size
    refine ⟨hs2.2.os.trans (hs1.2.os.trans hb1.os), hs2.2.tape.trans (hs1.2.tape.trans hb1.tape), hs2.2.output.trans (hs1.2.output.trans hb1.output), by simp at z3; omega, fun k hk _ => ?_⟩
    have e3 := hs2.2.block k (by simp; omega) (by simp; omega)
    have e2 := hs1.2.block k (by omega) (by simp; omega)
    exact e3.trans (e2.trans (hb1.block k hk))
  have HR := Lib.hid hs2.1
  have HG := Lib.hid hg
  have HRUN := Lib.hid hrun
  have HK1 := Lib.hid hk1
  have HK2 := Lib.hid hk2
  have hiln : (inserted l i t).length = l.length + 1 := ins_len l i t (by omega)
  have HN := Lib.hid hiln
  clear hs2 hg hrun hk1 hk2 hw3 hth2 hs1d ho3d ho3 hs1 hw2 hth1 hone ho2 hvb1 ho1 hn1 hfl hiln h1 hown hvb ht
  obtain ⟨hca1, hca2⟩ := hcap'
  unfold maxLen at hca2
  have hne : ¬ ((i : Int) = (l.length : Int)) := by omega
  have hgt : decide ((l.length : Int) + 1 > (cap : Int)) = true := by simp; omega
  have hgt' : (cap : Int) < (l.length : Int) + 1 := by omega
  go_enter Tryz.func52, Tryz.ntmps52
  go_wp2_with (first
    | (at_builtin; (refine Lib.wpList_append_run _ rfl _ _ _ _ rfl _ _ rfl (show Value.int .i64 ((l.length : Int) + 1 - (i : Int)) = .int .i64 ((l.length + 1 - i : Nat) : Int) by congr 1; omega) _ _ HRUN.out ?_))
    | (refine wpList_copy_run _ rfl _ _ _ _ rfl _ _ rfl rfl HK1.out ?_))
  have hi1 : (0 : Int) ≤ (i : Int) + 1 := by omega
  have hi2 : ((i : Int) + 1).toNat = i + 1 := by omega
  have hi3' : (i : Int) + 1 ≤ (l.length : Int) + 1 := by omega
  have hi4 : ¬ cap' = i + 1 := by omega
  have hi5 : ¬ cap = i := by omega
  have hi7 : i ≤ l.length := by omega
  have hi6 : IntKind.i64.wrap ((i : Int) + 1) = (i : Int) + 1 := IntWalk.i64_in _ (by omega)
  go_region_law (refine step_copy_run rfl (.tmp 50) (.tmp 53) 26 26 rfl _ _ (by simp [Act.eval, Act.put]) (by simp [Act.eval, Act.put]) HK2.out ?_)
  clear hi1 hi2 hi3' hi4 hi5 hi6 hi7
  go_wp2
  exact ⟨rfl, .slice (some ⟨w.heap.size, 0, none⟩) (l.length + 1) cap', results_tmp (t := 6) rfl _ _ _, _, rfl, by rw [HN.out]; exact HR.out, HG.out⟩
theorem shape_of_block {w : World} {g : Nat} {cs : Array Value} {e : TypeId} {fz : Nat × Nat} (h : w.heap[g]? = some (.cells cs e fz)) : w.shape? g = some (e, cs.size) := by
  simp [World.shape?, h]
set_option maxHeartbeats 2000000 in
theorem insert_room (base : Nat) (w : World) (gb cap i : Nat) (l : List Cell3) (h1 : ∀ t ∈ l, t.1.oneCell' = true ∧ t.2.1.oneCell' = true ∧ t.2.2.oneCell' = true) (hl : l.length ≤ 1048576) (hi : i < l.length) (hroom : l.length + 1 ≤ cap)
    (hown : w.ownsRow base 35 3 (.slice (some ⟨gb, 0, none⟩) l.length cap) l.length (flat l)) (t : Cell3) (vb : Nat) (hvb : w.heap[vb]? = some (.cells (cells3 t).toArray 35 (0, 0))) (ht : t.1.oneCell' = true ∧ t.2.1.oneCell' = true ∧ t.2.2.oneCell' = true) (hne : vb ≠ gb) :
    Calls Tryz.prog 52 #[.slice (some ⟨gb, 0, none⟩) l.length cap, .int .i64 i, .slice (some ⟨vb, 0, none⟩) 1 1] w fun e w' => ∃ v', e = .returned v' ∧
      w'.ownsRow base 35 3 v' (inserted l i t).length (flat (inserted l i t)) ∧ w.grownBy w' (some gb) := by
  obtain ⟨hcap, curG, hcurG, hcszG⟩ : cap ≤ maxLen ∧ ∃ cur, w.heap[gb]? = some (.cells cur 35 (0, 0)) ∧ cur.size = cap * 3 := by
    rcases hown.2 with ⟨h, -⟩ | ⟨gb', cap', cur, h, -, hc, h2, h3, h4, -⟩
    · cases h
    · cases h; exact ⟨h3, cur, hc, h4⟩
  obtain ⟨i3, hi3, hz3, hs3, hb3⟩ := info_parts (P := Tryz.prog) (e := 35) (z := .agg #[.int .i64 0, .slice none 0 0, .slice none 0 0]) (size := 3) (bytes := 56) (by kernel_rfl)
  have hone : ∀ u ∈ cells3 t, u.oneCell' = true := by simp [cells3, ht]
  have hov : ∀ lb cb, (callFunc 88 #[.slice (some ⟨vb, 0, none⟩) 1 1, .slice (some ⟨gb, (i + 1) * 3, none⟩) lb cb]).run Tryz.prog w = .ok (.value (.bool false)) w := fun lb cb => by
    rw [run_callFunc_extern Tryz.func88 (by kernel_rfl) (by kernel_rfl) (by kernel_rfl) (e := Extern.SlicesOverlaps.overlaps #[26, 26] #[4]) (by kernel_rfl),
      Lib.run_overlaps_apart w 26 4 35 Tryz.underlying26 3 (fun w => by kernel_rfl) ⟨vb, 0, none⟩ ⟨gb, (i + 1) * 3, none⟩ 1 1 lb cb hne _ _ _ _ (shape_of_block hvb) (shape_of_block hcurG) (by omega) (by simp [World.frozen?, hvb]) (by simp [World.frozen?, hvb])]
    rfl
  obtain ⟨zs, ho1⟩ := owns_longer hown (show l.length ≤ l.length + 1 by omega) hroom
  have ho1d := owns_below ho1 ((Below.refl w.heap.size w).drew)
  have hfl : (flat (l.drop i)).length = (l.length - i) * 3 := by rw [flat_length, List.length_drop]
  have hth1 := owns_there ho1d ((i + 1) * 3) ((l.length - i) * 3) (by omega)
  have hk1 := run_copy_size (P := Tryz.prog) w.drew 26 26 3 35 i3 3 gb ((i + 1) * 3) (l.length + 1 - (i + 1)) (cap - (i + 1)) ⟨gb, i * 3, none⟩ (l.length + 1 - i) (cap - i) (flat (l.drop i)) Tryz.underlying26 hi3 hs3 (l.length - i) (by simp [Nat.min_def] <;> omega) hfl
    (owns_src ho1d (i * 3) _ fun j u hu => by
      rw [← flat_drop, List.getElem?_drop] at hu
      rw [List.getElem?_append_left (List.getElem?_eq_some_iff.1 hu).1]; exact hu) (fun j hj => (hth1 j (by omega)).1) (fun j hj => (hth1 j (by omega)).2) (flat_one fun x hx => h1 x (List.mem_of_mem_drop hx))
  have hs1 := owns_storedL (flat (l.drop i)) ho1d ((i + 1) * 3)
  generalize hw2 : w.drew.setCells gb ((i + 1) * 3) (flat (l.drop i)) = w2 at hs1 hk1
  have hvlt := (Array.getElem?_eq_some_iff.1 hvb).1
  have hvb2 : w2.heap[vb]? = some (.cells (cells3 t).toArray 35 (0, 0)) := (hs1.2.block vb (by simpa using hvlt) (by simpa using hne)).trans hvb
  have hth2 := owns_there hs1.1 (i * 3) 3 (by omega)
  have hk2 := run_copy_size (P := Tryz.prog) w2 26 26 3 35 i3 3 gb (i * 3) (l.length + 1 - i) (cap - i) ⟨vb, 0, none⟩ 1 1 (cells3 t) Tryz.underlying26 hi3 hs3 1 (by simp [Nat.min_def] <;> omega) rfl (block_src hvb2) (fun j hj => (hth2 j hj).1) (fun j hj => (hth2 j hj).2) hone
  have hs2 := owns_storedL (cells3 t) hs1.1 (i * 3)
  generalize hw3 : w2.setCells gb (i * 3) (cells3 t) = w3 at hs2 hk2
  rw [ins_down l i t (by omega) _ (by rw [ho1.1]) (by rw [List.take_append_of_le_length (by rw [flat_length]; omega), flat_take])] at hs2
  have hg : w.grownBy w3 (some gb) := (show w.grownBy w.drew (some gb) from ⟨rfl, rfl, rfl, Nat.le_refl _, fun _ _ _ => rfl⟩).trans (hs1.2.trans hs2.2)
  have hnc : (n : Nat) → (c : Nat) → True := fun _ _ => trivial
  have HR := Lib.hid hs2.1
  have HG := Lib.hid hg
  have HK1 := Lib.hid hk1
  have HK2 := Lib.hid hk2
  have hiln : (inserted l i t).length = l.length + 1 := ins_len l i t (by omega)
  have HN := Lib.hid hiln
  clear hs2 hg hk1 hk2 hw3 hth2 hvb2 hvlt hw2 hs1 hth1 hfl ho1d ho1 hone hiln h1 hown hvb ht hnc hcurG hcszG hz3
  unfold maxLen at hcap
  have hne : ¬ ((i : Int) = (l.length : Int)) := by omega
  have hgt : decide ((l.length : Int) + 1 > (cap : Int)) = false := by simp; omega
  have hgt' : ¬ (cap : Int) < (l.length : Int) + 1 := by omega
  go_enter Tryz.func52, Tryz.ntmps52
  have hi1 : (0 : Int) ≤ (i : Int) + 1 := by omega
  have hi2 : ((i : Int) + 1).toNat = i + 1 := by omega
  have hi3' : (i : Int) + 1 ≤ (l.length : Int) + 1 := by omega
  have hi4 : ¬ cap = i + 1 := by omega
  have hi5 : ¬ cap = i := by omega
  have hi7 : i ≤ l.length := by omega
  have hi6 : IntKind.i64.wrap ((i : Int) + 1) = (i : Int) + 1 := IntWalk.i64_in _ (by omega)
  have hi8 : (i : Int) ≤ (l.length : Int) + 1 := by omega
  go_wp2_with fail
  go_region_law (refine step_copy_run rfl (.tmp 73) (.tmp 76) 26 26 rfl _ _ (by simp [Act.eval, Act.put]) (by simp [Act.eval, Act.put]) HK1.out ?_)
  clear hi1 hi2 hi3' hi4 hi6
  go_wp2_with (refine wpList_copy_run _ rfl _ _ _ _ rfl _ _ rfl rfl HK2.out ?_)
  exact ⟨rfl, .slice (some ⟨gb, 0, none⟩) (l.length + 1) cap, results_tmp (t := 6) rfl _ _ _, _, rfl, by rw [HN.out]; exact HR.out, HG.out⟩
/-- slices.Insert of one value that lies in a block of its own. -/
theorem insert_slot (base : Nat) (w : World) (v : Value) (i : Nat) (l : List Cell3) (h1 : ∀ t ∈ l, t.1.oneCell' = true ∧ t.2.1.oneCell' = true ∧ t.2.2.oneCell' = true) (hl : l.length ≤ 1048576) (hi : i ≤ l.length)
    (hown : w.ownsRow base 35 3 v l.length (flat l)) (t : Cell3) (vb : Nat) (hvb : w.heap[vb]? = some (.cells (cells3 t).toArray 35 (0, 0))) (ht : t.1.oneCell' = true ∧ t.2.1.oneCell' = true ∧ t.2.2.oneCell' = true) (hne : v.ownBlock ≠ some vb) (hbase : base ≤ w.heap.size) :
    Calls Tryz.prog 52 #[v, .int .i64 i, .slice (some ⟨vb, 0, none⟩) 1 1] w fun e w' => ∃ v', e = .returned v' ∧
      w'.ownsRow base 35 3 v' (inserted l i t).length (flat (inserted l i t)) ∧ w.grownBy w' v.ownBlock := by
  by_cases hil : i = l.length
  · subst hil
    refine (insert_end base w v l h1 hl hown t vb hvb ht hne hbase).mono fun e w' h => ?_
    obtain ⟨v', e1, e2, e3⟩ := h
    exact ⟨v', e1, by rw [ins_len l _ t (Nat.le_refl _), flat_ins, List.take_length, List.drop_length]; simpa [flat] using e2, e3⟩
  · rcases hown.2 with ⟨h, hn⟩ | ⟨gb, cap, cur, rfl, -, -⟩
    · omega
    · by_cases hr : l.length + 1 ≤ cap
      · exact insert_room base w gb cap i l h1 hl (by omega) hr hown t vb hvb ht (fun e => hne (by rw [e]; rfl))
      · exact insert_grow base w gb cap i l h1 hl (by omega) (by omega) hown t vb hvb ht hbase
end
end Go.Proofs.YthikfifoomfjgaaGreat
namespace Go.Tr
set_option linter.unusedVariables false
set_option linter.unusedSimpArgs false
/-- Element by element: these cells read as those. -/
def AllR {α : Type} (R : List Value → α → Prop) : List Cell3 → List α → Prop
  | [], [] => True
  | t :: ts, x :: xs => R (cells3 t) x ∧ AllR R ts xs
  | _, _ => False
variable {α : Type} {R R' : List Value → α → Prop}
theorem AllR.length : ∀ {ts : List Cell3} {xs : List α}, AllR R ts xs → ts.length = xs.length
  | [], [], _ => rfl
  | _ :: _, _ :: _, h => by simp [AllR.length h.2]
theorem AllR.get : ∀ {ts : List Cell3} {xs : List α}, AllR R ts xs → ∀ i (h1 : i < ts.length) (h2 : i < xs.length), R (cells3 ts[i]) xs[i]
  | _ :: _, _ :: _, h, 0, _, _ => h.1
  | _ :: _, _ :: _, h, i + 1, h1, h2 => AllR.get h.2 i (by simpa using h1) (by simpa using h2)
theorem AllR.imp : ∀ {ts : List Cell3} {xs : List α}, AllR R ts xs → (∀ t x, t ∈ ts → x ∈ xs → R (cells3 t) x → R' (cells3 t) x) → AllR R' ts xs
  | [], [], _, _ => trivial
  | t :: ts, x :: xs, h, hR => ⟨hR _ _ (by simp) (by simp) h.1, AllR.imp h.2 fun _ _ ht hx => hR _ _ (by simp [ht]) (by simp [hx])⟩
theorem AllR.filter {p : Cell3 → Bool} {q : α → Bool} (hpq : ∀ t x, R (cells3 t) x → p t = q x) : ∀ {ts : List Cell3} {xs : List α}, AllR R ts xs → AllR R (ts.filter p) (xs.filter q)
  | [], [], _ => trivial
  | t :: ts, x :: xs, h => by
    rw [List.filter_cons, List.filter_cons, hpq t x h.1]
    split
    · exact ⟨h.1, AllR.filter hpq h.2⟩
    · exact AllR.filter hpq h.2
theorem AllR.app : ∀ {ts us : List Cell3} {xs ys : List α}, AllR R ts xs → AllR R us ys → AllR R (ts ++ us) (xs ++ ys)
  | [], _, [], _, _, k => k
  | _ :: _, _, _ :: _, _, h, k => ⟨h.1, AllR.app h.2 k⟩
theorem AllR.take : ∀ {ts : List Cell3} {xs : List α} (i : Nat), AllR R ts xs → AllR R (ts.take i) (xs.take i)
  | _, _, 0, _ => trivial
  | [], [], i + 1, _ => trivial
  | _ :: _, _ :: _, i + 1, h => ⟨h.1, AllR.take i h.2⟩
theorem AllR.drop : ∀ {ts : List Cell3} {xs : List α} (i : Nat), AllR R ts xs → AllR R (ts.drop i) (xs.drop i)
  | _, _, 0, h => h
  | [], [], i + 1, _ => trivial
  | _ :: _, _ :: _, i + 1, h => AllR.drop i h.2
theorem AllR.mem : ∀ {ts : List Cell3} {xs : List α}, AllR R ts xs → ∀ t ∈ ts, ∃ x ∈ xs, R (cells3 t) x
  | _ :: _, _ :: _, h, t, ht => by
    rcases List.mem_cons.1 ht with rfl | ht
    · exact ⟨_, by simp, h.1⟩
    · obtain ⟨x, hx, hr⟩ := AllR.mem h.2 t ht
      exact ⟨x, by simp [hx], hr⟩
theorem AllR.part {ts : List Cell3} {xs : List α} (h : AllR R ts xs) : Part 3 R (flat ts) xs xs.length := fun i hi _ => by
  have hl := h.length
  refine ⟨cells3 (ts[i]'(by omega)), rfl, fun j u hu => ?_, h.get i (by omega) hi⟩
  have hg := flat_get ts i (by omega)
  have hj : j < 3 := by have := (List.getElem?_eq_some_iff.1 hu).1; simpa [cells3] using this
  match j, hj with
  | 0, _ => rw [Nat.add_zero, hg.1]; simpa [cells3] using hu
  | 1, _ => rw [hg.2.1]; simpa [cells3] using hu
  | 2, _ => rw [hg.2.2]; simpa [cells3] using hu
theorem Part.all {ys : List Value} : ∀ {xs : List α}, (∀ cs x, R cs x → ∃ c0 c1 c2, cs = [c0, c1, c2]) → ys.length = xs.length * 3 → Part 3 R ys xs xs.length → ∃ ts, ys = flat ts ∧ AllR R ts xs := by
  intro xs h3 hy hp
  induction xs generalizing ys with
  | nil => exact ⟨[], List.eq_nil_of_length_eq_zero (by simpa using hy), trivial⟩
  | cons x xs ih =>
    obtain ⟨cs, hc, hg, hr⟩ := hp 0 (by simp) (by simp)
    obtain ⟨c0, c1, c2, rfl⟩ := h3 _ _ hr
    have g0 := hg 0 c0 rfl
    have g1 := hg 1 c1 rfl
    have g2 := hg 2 c2 rfl
    simp only [Nat.zero_mul, Nat.zero_add] at g0 g1 g2
    obtain ⟨ts, h1, h2⟩ := ih (ys := ys.drop 3) (by simp only [List.length_drop, hy, List.length_cons]; omega) (fun i hi hi' => by
      obtain ⟨cs, k1, k2, k3⟩ := hp (i + 1) (by simp; omega) (by simp; omega)
      exact ⟨cs, k1, fun j u hu => by rw [List.getElem?_drop, ← k2 j u hu]; congr 1; omega, by simpa using k3⟩)
    refine ⟨(c0, c1, c2) :: ts, ?_, by have h := hr; simp only [List.getElem_cons_zero] at h; exact h, h2⟩
    rw [flat_cons, ← h1]
    match ys, hy, g0, g1, g2 with
    | a :: b :: c :: r, _, g0, g1, g2 => simp at g0 g1 g2; simp [cells3, g0, g1, g2]
end Go.Tr
namespace Go.Proofs.YthikfifoomfjgaaGreat
open Go.RowKit Go.Tr
set_option maxRecDepth 100000
set_option linter.unusedVariables false
set_option linter.unusedSimpArgs false
def IntCell (t : Cell3) : Prop := ∃ n : Int, t.1 = .int .i64 n ∧ -9223372036854775808 ≤ n ∧ n ≤ 9223372036854775807
def noC (t : Cell3) : Int := match t.1 with
  | .int _ n => n
  | _ => 0
theorem set_1 (b : Nat) (no : Int) (w : World) (cs : List Value) (x : Cell3) (hok : IntAt b no w) (hx : R3 cs x ∧ IntCell x) :
    Calls Tryz.prog 50 (#[.agg cs.toArray] ++ #[.pointer (some ⟨b, 0, none⟩)]) w fun e w' => e = .returned (.bool (decide (noC x = no))) ∧ Below w.heap.size w w' := by
  obtain ⟨⟨rfl, -⟩, n, h1, h2, h3⟩ := hx
  obtain ⟨c, d, e⟩ := x
  simp only at h1
  subst h1
  have hc := hok
  unfold IntAt at hc
  have bl := block_lt_of_cell hc
  clear hok
  show Calls Tryz.prog 50 #[.agg #[.int .i64 n, d, e], .pointer (some ⟨b, 0, none⟩)] w fun e w' => e = .returned (.bool (decide (n = no))) ∧ Below w.heap.size w w'
  go_enter Tryz.func50, Tryz.ntmps50
  go_wp2
  exact ⟨rfl, _, results_tmp (t := 3) rfl _ _ _, rfl, al1 _ _⟩
theorem set_2 (L B n b : Nat) (no : Int) (w : World) (cs : List Value) (x : Slot) (hok : IntAt b no w) (hx : RSlot L B w (RMsg L B w n) cs x) :
    Calls Tryz.prog 51 (#[.agg cs.toArray] ++ #[.pointer (some ⟨b, 0, none⟩)]) w fun e w' => e = .returned (.bool (overNo no x)) ∧ Below w.heap.size w w' := by
  obtain ⟨c, d, rfl, h1, h2, -, -⟩ := hx
  have hc := hok
  unfold IntAt at hc
  have bl := block_lt_of_cell hc
  clear hok
  show Calls Tryz.prog 51 #[.agg #[.int .i64 x.no, c, d], .pointer (some ⟨b, 0, none⟩)] w _
  go_enter Tryz.func51, Tryz.ntmps51
  go_wp2
  exact ⟨rfl, _, results_tmp (t := 3) rfl _ _ _, rfl, al1 _ _⟩
/-- What value.Set tells. -/
def without (m : Msg) (no : Int) : List Slot := m.f.filter fun x => !isNo no x
def placed (r : List Slot) (s : Slot) : List Slot := r.take ((r.findIdx? (overNo s.no)).getD r.length) ++ s :: r.drop ((r.findIdx? (overNo s.no)).getD r.length)
def setSlot (m : Msg) (s : Slot) : Msg := .mk (if s.v = [] then without m s.no else placed (without m s.no) s)
/-- A row of one's own, however it was made; its elements, as they read in an older world, lie in blocks behind it. -/
def OwnAt (L B : Nat) (w w0 : World) (n : Nat) (v : Value) (xs : List Slot) : Prop :=
  ∃ ts, w.ownsRow B 35 3 v ts.length (flat ts) ∧ (∀ g, v.ownBlock = some g → AllR (RSlot L (g + 1) w0 (RMsg L (g + 1) w0 n)) ts xs) ∧ AllR (RSlot L B w0 (RMsg L B w0 n)) ts xs
/-- What that older world has behind the row is still so. -/
def KeepsOf (v : Value) (B : Nat) (w0 w : World) : Prop := (∀ g, v.ownBlock = some g → Keeps (g + 1) w0 w) ∧ (v.ownBlock = none → Keeps B w0 w)
theorem Made.own {L n B : Nat} {w : World} {v : Value} {xs : List Slot} (h : Made 35 3 B w (fun b => RSlot L b w (RMsg L b w n)) v xs) : OwnAt L B w w n v xs := by
  rcases h with ⟨rfl, rfl⟩ | ⟨g, ys, rfl, ho, hp⟩
  · exact ⟨[], World.ownsRow_nil _ _ _ _, by simp [Value.ownBlock], trivial⟩
  · obtain ⟨ts, rfl, ha⟩ := Part.all (fun cs x h => by obtain ⟨c0, c1, c2, e, -⟩ := rslot_three L (g + 1) n w cs x h; exact ⟨c0, c1, c2, e⟩) ho.1 hp
    have hl := ha.length
    have hg := (ho.lt g rfl).1
    refine ⟨ts, by rw [hl]; exact ho, fun g' hg' => ?_, ha.imp fun t x _ _ h => rslot_keepB L n _ _ _ _ _ _ (by omega) (Keeps.refl _ _) h⟩
    simp only [Value.ownBlock, Option.some.injEq] at hg'
    subst hg'
    exact ha
theorem rslot_cells {L B n : Nat} {w : World} {t : Cell3} {x : Slot} (h : RSlot L B w (RMsg L B w n) (cells3 t) x) : (t.1.oneCell' = true ∧ t.2.1.oneCell' = true ∧ t.2.2.oneCell' = true) ∧ IntCell t ∧ noC t = x.no := by
  obtain ⟨c0, c1, c2, e, o0, o1, o2⟩ := rslot_three L B n w _ _ h
  obtain ⟨c, d, e', h1, h2, -, -⟩ := h
  obtain ⟨t0, t1, t2⟩ := t
  simp only [cells3, List.cons.injEq, and_true] at e e'
  obtain ⟨rfl, rfl, rfl⟩ := e
  obtain ⟨rfl, rfl, rfl⟩ := e'
  exact ⟨⟨rfl, o1, o2⟩, ⟨_, rfl, h1, h2⟩, rfl⟩
theorem isNo_cell {L B n : Nat} {w : World} (no : Int) (t : Cell3) (x : Slot) (h : RSlot L B w (RMsg L B w n) (cells3 t) x) : (!decide (noC t = no)) = !isNo no x := by
  rw [(rslot_cells h).2.2]; rfl
theorem OwnAt.kept {L B n : Nat} {w w' w0 : World} {v : Value} {xs : List Slot} {row : Option Nat} (h : OwnAt L B w w0 n v xs) (hg : w.grownBy w' row) (hne : v.ownBlock = none ∨ v.ownBlock ≠ row) : OwnAt L B w' w0 n v xs := by
  obtain ⟨ts, ho, h1, h2⟩ := h
  exact ⟨ts, ho.kept hg hne, h1, h2⟩
theorem OwnAt.slice {L B n : Nat} {w w0 : World} {v : Value} {xs : List Slot} (h : OwnAt L B w w0 n v xs) : ∃ a cap, v = .slice a xs.length cap ∧ xs.length ≤ cap ∧ cap ≤ maxLen ∧ ∀ g, v.ownBlock = some g → B ≤ g ∧ g < w.heap.size ∧ ∃ k, w.shape? g = some (35, k) := by
  obtain ⟨ts, ho, -, ha⟩ := h
  have hl := ha.length
  rcases ho.2 with ⟨rfl, hn⟩ | ⟨g, cap, cur, rfl, h1, h2, h3, h4, -⟩
  · exact ⟨none, 0, by rw [← hl, hn], by omega, by simp, by simp [Value.ownBlock]⟩
  · refine ⟨_, cap, by rw [← hl], by omega, h4, fun g' hg => ?_⟩
    simp only [Value.ownBlock, Option.some.injEq] at hg
    subst hg
    exact ⟨h1, (Array.getElem?_eq_some_iff.1 h2).1, _, shape_of_block h2⟩
theorem OwnAt.all {L B B' n : Nat} {w w0 w' : World} {v : Value} {xs : List Slot} (h : OwnAt L B w w0 n v xs) (hk : KeepsOf v B w0 w') (hB : B' ≤ B) : ∃ ts, w.ownsRow B 35 3 v ts.length (flat ts) ∧ AllR (RSlot L B' w' (RMsg L B' w' n)) ts xs := by
  obtain ⟨ts, ho, hg, ha⟩ := h
  refine ⟨ts, ho, ?_⟩
  cases hv : v.ownBlock with
  | none => exact ha.imp fun t x _ _ h => rslot_keepB L n _ _ _ _ _ _ hB (hk.2 hv) h
  | some g =>
    have := (ho.lt g hv).1
    exact (hg g hv).imp fun t x _ _ h => rslot_keepB L n _ _ _ _ _ _ (by omega) (hk.1 g hv) h
theorem OwnAt.row {L B B' n : Nat} {w w0 : World} {v : Value} {xs : List Slot} (h : OwnAt L B w w0 n v xs) (hk : KeepsOf v B w0 w) (hL : xs.length ≤ L) (hB : B' ≤ B) : RowOf L B' w 3 (RSlot L B' w (RMsg L B' w n)) v xs := by
  obtain ⟨ts, ho, ha⟩ := h.all hk hB
  have hl := ha.length
  exact Has.row (e := 35) (B := B) (R := RSlot L B' w (RMsg L B' w n)) ⟨flat ts, by rw [← hl]; exact ho, ha.part⟩ hL hB (Keeps.refl _ _) fun cs x _ h => h
/-- DeleteFunc, as value.Set calls it. -/
theorem del_own (L B n b : Nat) (no : Int) (hL : L ≤ 1048576) (w w0 : World) (v : Value) (xs : List Slot) (hxs : xs.length ≤ L) (h : OwnAt L B w w0 n v xs) (hok : IntAt b no w) (hb : b < B) :
    Calls Tryz.prog 49 #[v, .func (.func 50) #[] #[.pointer (some ⟨b, 0, none⟩)]] w fun e w' => ∃ v', e = .returned v' ∧
      OwnAt L B w' w0 n v' (xs.filter fun x => !isNo no x) ∧ v'.ownBlock = v.ownBlock ∧ w.grownBy w' v.ownBlock := by
  obtain ⟨ts, ho, hg, ha⟩ := h
  have hl := ha.length
  refine (deleteFunc_slot B (fun t => decide (noC t = no)) 50 #[.pointer (some ⟨b, 0, none⟩)] (enters_of Tryz.func50 (by kernel_rfl) rfl) (IntAt b no) (intAt_below b no) IntCell (fun w cs x => set_1 b no w cs x) w v ts
    (fun t ht => by obtain ⟨x, -, h⟩ := ha.mem t ht; exact (rslot_cells h).1) (fun t ht => by obtain ⟨x, -, h⟩ := ha.mem t ht; exact (rslot_cells h).2.1) (by omega) ho hok ?_).mono ?_
  · intro w' g o ds hv hi
    have hgb := (ho.lt g hv).1
    unfold IntAt at hi ⊢
    rw [World.cell?_setCells_out g ds o w' ⟨b, 0, none⟩ (fun e _ => by simp at e; omega)]
    exact hi
  · rintro e w' ⟨v', rfl, h1, h2, h3⟩
    exact ⟨v', rfl, ⟨_, h1, fun g hv => (hg g (by rw [← h2]; exact hv)).filter fun t x h => isNo_cell no t x h, ha.filter fun t x h => isNo_cell no t x h⟩, h2, h3⟩
/-- Insert, as value.Set calls it: what it answers reads so in each world that differs in one box alone. -/
theorem ins_own (L B Bs n i vb K : Nat) (hL : L ≤ 1048576) (w w0 : World) (v : Value) (xs : List Slot) (hxs : xs.length + 1 ≤ L) (h : OwnAt L B w w0 n v xs) (hk : KeepsOf v B w0 w) (hi : i ≤ xs.length) (t : Cell3) (s : Slot) (hvb : w.heap[vb]? = some (.cells (cells3 t).toArray 35 (0, 0)))
    (hs : RSlot L Bs w (RMsg L Bs w n) (cells3 t) s) (hB : B ≤ Bs) (hgs : ∀ g, v.ownBlock = some g → g < Bs ∧ g ≠ vb) (hbase : B ≤ w.heap.size) (hK : ∃ k, w.shape? K = some (28, k)) (hK0 : w0.heap.size ≤ K) (hKs : K < Bs) :
    Calls Tryz.prog 52 #[v, .int .i64 i, .slice (some ⟨vb, 0, none⟩) 1 1] w fun e w' => ∃ v', e = .returned v' ∧ (∃ a cap, v' = .slice a (xs.length + 1) cap) ∧ w.grownBy w' v.ownBlock ∧
      ∀ wf : World, (∀ p u, B ≤ p.block → p.block ≠ K → w'.cell? p = some u → wf.cell? p = some u) → RowOf L B wf 3 (RSlot L B wf (RMsg L B wf n)) v' (xs.take i ++ s :: xs.drop i) := by
  obtain ⟨kk, hK⟩ := hK
  have hKlt : K < w.heap.size := by
    rcases Nat.lt_or_ge K w.heap.size with h | h
    · exact h
    · simp [World.shape?, Array.getElem?_eq_none h] at hK
  have hvK : v.ownBlock ≠ some K := fun e => by
    obtain ⟨a, cap, rfl, -, -, hg⟩ := h.slice
    obtain ⟨-, -, k, hk⟩ := hg K e
    rw [hK] at hk; simp at hk
  obtain ⟨ts, ho, hg, ha⟩ := h
  have hl := ha.length
  refine (insert_slot B w v i ts (fun t ht => by obtain ⟨x, -, h⟩ := ha.mem t ht; exact (rslot_cells h).1) (by omega) (by omega) ho t vb hvb (rslot_cells hs).1 (fun e => (hgs vb e).2 rfl) hbase).mono ?_
  rintro e w' ⟨v', rfl, h1, h2⟩
  have hv' : (∃ a cap, v' = .slice a (xs.length + 1) cap) ∧ v'.ownBlock ≠ some K := by
    have hil : (inserted ts i t).length = xs.length + 1 := by rw [ins_len ts i t (by omega), hl]
    rcases h1.2 with ⟨rfl, hz⟩ | ⟨g, cap, cur, rfl, -, hc, -⟩
    · omega
    · refine ⟨⟨_, cap, by rw [hil]⟩, fun e => ?_⟩
      simp only [Value.ownBlock, Option.some.injEq] at e
      subst e
      have e1 := h2.block g hKlt (Ne.symm hvK)
      have e2 := shape_of_block hc
      unfold World.shape? at e2 hK
      rw [e1] at e2
      rw [e2] at hK; simp at hK
  refine ⟨v', rfl, hv'.1, h2, fun wf hwf => ?_⟩
  have hw0 : ∀ B', B ≤ B' → (∀ g, v.ownBlock = some g → g < B') → Keeps B' w0 w → Keeps B' w0 wf := fun B' hBB hb hk p u hp hu => by
    have hlt := block_lt_of_cell hu
    exact hwf p u (by omega) (by omega) (h2.cell (hk p u hp hu) (fun e => by have := hb _ e.symm; omega))
  have hws : Keeps Bs w wf := fun p u hp hu => hwf p u (by omega) (by omega) (h2.cell hu (fun e => by have := (hgs _ e.symm).1; omega))
  have hall : AllR (RSlot L B wf (RMsg L B wf n)) (inserted ts i t) (xs.take i ++ s :: xs.drop i) := by
    cases hv : v.ownBlock with
    | none =>
      have ha' := ha.imp fun t x _ _ h => rslot_keepB L n _ _ _ _ _ _ (Nat.le_refl _) (hw0 B (Nat.le_refl _) (by rw [hv]; simp) (hk.2 hv)) h
      exact (ha'.take i).app ⟨rslot_keepB L n _ _ _ _ _ _ hB hws hs, ha'.drop i⟩
    | some g =>
      have hgb := (ho.lt g hv).1
      have ha' := (hg g hv).imp fun t x _ _ h => rslot_keepB L n _ B _ _ _ _ (by omega) (hw0 (g + 1) (by omega) (by rw [hv]; simp) (hk.1 g hv)) h
      exact (ha'.take i).app ⟨rslot_keepB L n _ _ _ _ _ _ hB hws hs, ha'.drop i⟩
  have hlen := hall.length
  have hrow : RowOf L B w' 3 R3 v' (inserted ts i t) := by
    have h1t : ∀ u ∈ inserted ts i t, u.1.oneCell' = true ∧ u.2.1.oneCell' = true ∧ u.2.2.oneCell' = true := fun u hu => by obtain ⟨x, -, h⟩ := hall.mem u hu; exact (rslot_cells h).1
    have hil : (inserted ts i t).length ≤ L := by rw [hlen]; simp; omega
    refine Has.row (e := 35) (B := B) (R := R3) ⟨_, h1, fun j hj _ => ⟨cells3 (inserted ts i t)[j], rfl, fun q u hu => ?_, rfl, h1t _ (List.getElem_mem hj)⟩⟩ hil (Nat.le_refl _) (Keeps.refl _ _) (fun _ _ _ h => h)
    have hg := flat_get (inserted ts i t) j hj
    have hq : q < 3 := by have := (List.getElem?_eq_some_iff.1 hu).1; simpa [cells3] using this
    match q, hq with
    | 0, _ => rw [Nat.add_zero, hg.1]; simpa [cells3] using hu
    | 1, _ => rw [hg.2.1]; simpa [cells3] using hu
    | 2, _ => rw [hg.2.2]; simpa [cells3] using hu
  obtain ⟨a, cap, rfl, r1, r2, r3, r4, r5⟩ := hrow
  rw [hlen] at r1 r2
  refine ⟨a, cap, by rw [hlen], r1, r2, r3, r4, fun hne => ?_⟩
  obtain ⟨b, off, rfl, hb, hc⟩ := r5 (fun e => by rw [e] at hlen; simp at hlen)
  refine ⟨b, off, rfl, hb, fun j hj => ?_⟩
  obtain ⟨cs, k1, k2, k3⟩ := hc j (by omega)
  obtain ⟨k3, -⟩ := k3
  subst k3
  exact ⟨_, k1, fun q u hu => hwf _ _ hb (fun e => hv'.2 (by simp [Value.ownBlock, ← e])) (k2 q u hu), hall.get j (by omega) hj⟩
theorem al_cell {w : World} {o : Obj} {p : Addr} {v : Value} (h : w.cell? p = some v) : (w.alloc o).cell? p = some v := ((al1 w o).cell (block_lt_of_cell h)).trans h
theorem al_new (w : World) (v : Value) (t : TypeId) : (w.alloc (.cells #[v] t)).cell? ⟨w.heap.size, 0, none⟩ = some v := by simp [go_sem]
theorem al_newf (w : World) (v : Value) (t : TypeId) : (w.alloc (.cells #[v] t)).frozen? ⟨w.heap.size, 0, none⟩ = false := by simp [go_sem]
theorem al_frozen {w : World} {o : Obj} {p : Addr} (h : p.block < w.heap.size) : (w.alloc o).frozen? p = w.frozen? p := (al1 w o).frozen h
theorem own_any (o : Option Nat) : o = none ∨ o ≠ none := by cases o <;> simp
theorem keeps_setK {B K : Nat} {w0 w : World} (h : Keeps B w0 w) (hK : w0.heap.size ≤ K) (u : Value) : Keeps B w0 (w.setCell ⟨K, 0, none⟩ u) := fun p x hp hx => by
  have hlt := block_lt_of_cell hx
  rw [World.cell?_setCell_other _ _ _ _ (fun e => by subst e; simp at hlt; omega)]
  exact h p x hp hx
theorem KeepsOf.set {B : Nat} {v : Value} {w0 w : World} (h : KeepsOf v B w0 w) {p : Addr} (hp : p.block < B) (hg : ∀ g, v.ownBlock = some g → B ≤ g) (u : Value) : KeepsOf v B w0 (w.setCell p u) :=
  ⟨fun g e => (h.1 g e).set (by have := hg g e; omega) u, fun e => (h.2 e).set hp u⟩
theorem KeepsOf.setK {B K : Nat} {v : Value} {w0 w : World} (h : KeepsOf v B w0 w) (hK : w0.heap.size ≤ K) (u : Value) : KeepsOf v B w0 (w.setCell ⟨K, 0, none⟩ u) :=
  ⟨fun g e => keeps_setK (h.1 g e) hK u, fun e => keeps_setK (h.2 e) hK u⟩
theorem range_one {w : World} {b : Nat} {x : Value} (h : w.cell? ⟨b, 0, none⟩ = some x) : w.rangeAt b 0 [x] := fun j u hu => by
  have hj : j < 1 := by have := (List.getElem?_eq_some_iff.1 hu).1; simpa using this
  match j, hj with
  | 0, _ => simp at hu; subst hu; exact h
theorem KeepsOf.below {B : Nat} {v : Value} {w0 w w' : World} (h : KeepsOf v B w0 w) (hb : Below w.heap.size w w') : KeepsOf v B w0 w' :=
  ⟨fun g e => (h.1 g e).trans (.of_below hb), fun e => (h.2 e).trans (.of_below hb)⟩
theorem OwnAt.below {L B n : Nat} {w w' w0 : World} {v : Value} {xs : List Slot} (h : OwnAt L B w w0 n v xs) (hb : Below w.heap.size w w') : OwnAt L B w' w0 n v xs :=
  h.kept (row := none) ⟨hb.os, hb.tape, hb.output, hb.size, fun k hk _ => hb.block k hk⟩ (own_any _)
theorem shape_below {w w' : World} {b : Nat} {x : TypeId × Nat} (h : w.shape? b = some x) (hb : Below w.heap.size w w') : w'.shape? b = some x := by
  have hlt : b < w.heap.size := by
    rcases Nat.lt_or_ge b w.heap.size with h' | h'
    · exact h'
    · simp [World.shape?, Array.getElem?_eq_none h'] at h
  unfold World.shape? at h ⊢
  rw [hb.block b hlt]; exact h
theorem shape_set {w : World} {b : Nat} {x : TypeId × Nat} (h : w.shape? b = some x) (p : Addr) (u : Value) : (w.setCell p u).shape? b = some x :=
  (World.keptBut_setCell w p u (may := fun _ => True) trivial).shape h
theorem placed_at (r : List Slot) (s : Slot) : ∃ i, i ≤ r.length ∧ placed r s = r.take i ++ s :: r.drop i ∧ ((idxOf (overNo s.no) r = -1 ∧ i = r.length) ∨ idxOf (overNo s.no) r = (i : Int)) := by
  unfold placed idxOf
  cases h : r.findIdx? (overNo s.no) with
  | none => exact ⟨_, Nat.le_refl _, rfl, .inl ⟨rfl, rfl⟩⟩
  | some k => exact ⟨k, by obtain ⟨hk, -⟩ := List.findIdx?_eq_some_iff_getElem.1 h; omega, rfl, .inr rfl⟩
theorem frozen_grown {w w' : World} {row : Option Nat} (hg : w.grownBy w' row) {a : Addr} (h : a.block < w.heap.size) (hne : some a.block ≠ row) : w'.frozen? a = w.frozen? a :=
  World.frozen?_of_block (hg.block a.block h hne)
section
attribute [local go_sem] run_store
set_option maxHeartbeats 4000000 in
theorem value_set (L n : Nat) (hL : L ≤ 1048576) (w : World) (cs ds : List Value) (m : Msg) (s : Slot) (hx : RMsg L 0 w (n + 1) cs m) (hs : RSlot L 0 w (RMsg L 0 w n) ds s) (hlen : m.f.length + 1 ≤ L) :
    Calls Tryz.prog 26 #[.agg cs.toArray, .agg ds.toArray] w fun e w' => ∃ v', e = .returned (.agg #[v']) ∧ RMsg L w.heap.size w' (n + 1) [v'] (setSlot m s) ∧ Below w.heap.size w w' := by
  have HW := Lib.hid fun w' (hb : Below w.heap.size w w') => value_own_row L 0 n (by omega) w' cs m (RMsg.below hb (n + 1) hx)
  have HS := Lib.hid hs
  obtain ⟨c, rfl, h4⟩ := hx
  obtain ⟨a1, cap1, rfl, -⟩ := h4
  obtain ⟨c, d, rfl, hn1, hn2, h5, h6⟩ := hs
  obtain ⟨a2, cap2, rfl, -⟩ := h5
  obtain ⟨a3, cap3, rfl, p0, p1, p2, -, -⟩ := h6
  unfold maxLen at p2
  go_enter Tryz.func26, Tryz.ntmps26
  go_wp2_with fail
  · refine (HW.out _ (((al1 _ _).nx (al1 _ _)).nx (al1 _ _))).mono ?_; rintro e w1 ⟨v1, rfl, hm1, b1⟩
    have ho1 : OwnAt L (w.heap.size + 3) w1 w1 n v1 m.f := by have h := Made.own hm1; simp at h; exact h
    have HB1 := Lib.hid ((((al1 _ _).nx (al1 _ _)).nx (al1 _ _)).nx b1)
    have hz1 : w.heap.size + 3 ≤ w1.heap.size := by have := b1.size; simp at this; omega
    have m0 := (b1.cell (p := ⟨w.heap.size + 1, 0, none⟩) (by simp)).trans (show _ = some (Value.int .i64 s.no) by simp [go_sem])
    have m1 := (b1.cell (p := ⟨w.heap.size + 1, 1, none⟩) (by simp)).trans (show _ = some (Value.slice a2 s.k.length cap2) by simp [go_sem])
    have m2 := (b1.cell (p := ⟨w.heap.size + 1, 2, none⟩) (by simp)).trans (show _ = some (Value.slice a3 s.v.length cap3) by simp [go_sem])
    have z0 := (b1.cell (p := ⟨w.heap.size + 2, 0, none⟩) (by simp)).trans (show _ = some (Value.slice none 0 0) by simp [go_sem])
    have fz := (b1.frozen (p := ⟨w.heap.size + 2, 0, none⟩) (by simp)).trans (show _ = false by simp [go_sem])
    obtain ⟨ax, capx, rfl, -, -, hgx⟩ := ho1.slice
    have HO1 := Lib.hid ho1
    clear b1 hm1 ho1
    go_wp2_with fail
    refine (del_own L (w.heap.size + 3) n (w.heap.size + 1) s.no hL _ w1 _ m.f (by omega) (HO1.out.kept (World.grownBy_alloc _ _ none) (own_any _)) (al_cell m0) (by omega)).mono ?_
    rintro e w2 ⟨v2, rfl, ho2, hv2, hg2⟩
    have hgb : ∀ g, (Value.slice ax m.f.length capx).ownBlock = some g → w.heap.size + 3 ≤ g ∧ g < w1.heap.size := fun g h => ⟨(hgx g h).1, (hgx g h).2.1⟩
    have hne : ∀ b, (b < w.heap.size + 3 ∨ b = w1.heap.size) → some b ≠ (Value.slice ax m.f.length capx).ownBlock := fun b hb e => by have := hgb b e.symm; omega
    have hz2 := hg2.size
    have q0 := hg2.cell (a := ⟨w.heap.size + 1, 0, none⟩) (al_cell m0) (hne _ (by simp))
    have q1 := hg2.cell (a := ⟨w.heap.size + 1, 1, none⟩) (al_cell m1) (hne _ (by simp))
    have q2 := hg2.cell (a := ⟨w.heap.size + 1, 2, none⟩) (al_cell m2) (hne _ (by simp))
    have y0 := hg2.cell (a := ⟨w.heap.size + 2, 0, none⟩) (al_cell z0) (hne _ (by simp))
    have fy := (frozen_grown hg2 (a := ⟨w.heap.size + 2, 0, none⟩) (by simp; omega) (hne _ (by simp))).trans ((al_frozen (p := ⟨w.heap.size + 2, 0, none⟩) (block_lt_of_cell z0)).trans fz)
    have k0 := hg2.cell (a := ⟨w1.heap.size, 0, none⟩) (al_new w1 _ _) (hne _ (by simp))
    have fk := (frozen_grown hg2 (a := ⟨w1.heap.size, 0, none⟩) (by simp) (hne _ (by simp))).trans (al_newf w1 _ _)
    have sk : ∃ k, w2.shape? w1.heap.size = some (28, k) := ⟨_, shape_of_block ((hg2.block w1.heap.size (by simp) (hne _ (by simp))).trans (heap_alloc_new w1 _))⟩
    have b2 := (HB1.out.nx (al1 _ _)).grown hg2 (by simp; omega) (fun g h => by have := hgb g h; omega)
    have kp2 : KeepsOf v2 (w.heap.size + 3) w1 w2 := by
      refine ⟨fun g h => ?_, fun h => ?_⟩
      · rw [hv2] at h
        exact fun p u hp hu => hg2.cell ((al1 w1 _).cell (block_lt_of_cell hu) |>.trans hu) (by rw [h]; simp; omega)
      · rw [hv2] at h
        exact fun p u hp hu => hg2.cell ((al1 w1 _).cell (block_lt_of_cell hu) |>.trans hu) (by rw [h]; simp)
    obtain ⟨ay, capy, rfl, hy1, hy2, hgy⟩ := ho2.slice
    have HO2 := Lib.hid ho2
    have HB2 := Lib.hid b2
    have HKP := Lib.hid kp2
    have HGY := Lib.hid hgy
    have HSK := Lib.hid sk
    have HV2 := Lib.hid hv2
    have HGB := Lib.hid hgb
    clear ho2 b2 kp2 hgy sk hv2 hg2 hgb hgx hne m0 m1 m2 z0 fz
    have hg3 : ∀ g, (Value.slice ay (List.filter (fun x => !isNo s.no x) m.f).length capy).ownBlock = some g → w.heap.size + 3 ≤ g ∧ g < w1.heap.size := fun g h => HGB.out g (by rw [← HV2.out]; exact h)
    have hrl : (List.filter (fun x => !isNo s.no x) m.f).length ≤ m.f.length := List.length_filter_le _ _
    by_cases hsv : s.v = []
    · have hl0 : s.v.length = 0 := by rw [hsv]; rfl
      have hle : ((s.v.length : Int) == 0) = true := by simp [hsv]
      have HSV := Lib.hid hsv
      clear hsv
      go_wp2_with fail
      have hr : RowOf L (w.heap.size) ((w2.setCell ⟨w1.heap.size, 0, none⟩ (.slice ay (List.filter (fun x => !isNo s.no x) m.f).length capy)).setCell ⟨w.heap.size + 1 + 1, 0, none⟩ (.slice ay (List.filter (fun x => !isNo s.no x) m.f).length capy)) 3
          (RSlot L w.heap.size ((w2.setCell ⟨w1.heap.size, 0, none⟩ (.slice ay (List.filter (fun x => !isNo s.no x) m.f).length capy)).setCell ⟨w.heap.size + 1 + 1, 0, none⟩ (.slice ay (List.filter (fun x => !isNo s.no x) m.f).length capy)) (RMsg L w.heap.size ((w2.setCell ⟨w1.heap.size, 0, none⟩ (.slice ay (List.filter (fun x => !isNo s.no x) m.f).length capy)).setCell ⟨w.heap.size + 1 + 1, 0, none⟩ (.slice ay (List.filter (fun x => !isNo s.no x) m.f).length capy)) n))
          (.slice ay (List.filter (fun x => !isNo s.no x) m.f).length capy) (without m s.no) := by
        have h3 := (HO2.out.kept (grown_set w2 ⟨w1.heap.size, 0, none⟩ (.slice ay (List.filter (fun x => !isNo s.no x) m.f).length capy)) (.inr fun e => by have := hg3 _ e; simp only at this; omega)).kept (grown_set _ ⟨w.heap.size + 1 + 1, 0, none⟩ (.slice ay (List.filter (fun x => !isNo s.no x) m.f).length capy)) (.inr fun e => by have := hg3 _ e; simp only at this; omega)
        exact h3.row ((HKP.out.setK (Nat.le_refl _) _).set (p := ⟨w.heap.size + 1 + 1, 0, none⟩) (by simp) (fun g h => (hg3 g h).1) _) (by have := List.length_filter_le (fun x => !isNo s.no x) m.f; omega) (by omega)
      refine bodyPost_ret (v := .agg #[.slice ay (List.filter (fun x => !isNo s.no x) m.f).length capy]) (results_cell_mid rfl _ _ (w.heap.size + 2) 0 [_] _ rfl (range_one (World.cell?_setCell_same _ _ _ (u := Value.slice none 0 0) ((World.cell?_setCell_other _ _ _ _ (fun e => by simp at e <;> omega)).trans y0))) Tryz.underlying28 rfl (by kernel_rfl)) rfl ⟨_, rfl, ⟨_, rfl, by unfold setSlot Msg.f; rw [if_pos HSV.out]; exact hr⟩, ?_⟩
      exact (HB2.out.setCell (p := ⟨w1.heap.size, 0, none⟩) (by simp only; omega) _).setCell (p := ⟨w.heap.size + 1 + 1, 0, none⟩) (by simp only; omega) _
    · have hl0 : 0 < s.v.length := List.length_pos_iff.2 hsv
      have hle : ((s.v.length : Int) == 0) = false := by simp; exact hsv
      have hle2 : ¬ ((s.v.length : Int) = 0) := by omega
      have HSV := Lib.hid hsv
      clear hsv
      have h3 := HO2.out.kept (grown_set w2 ⟨w1.heap.size, 0, none⟩ (.slice ay (List.filter (fun x => !isNo s.no x) m.f).length capy)) (.inr fun e => by have := hg3 _ e; simp only at this; omega)
      have k3 := HKP.out.setK (Nat.le_refl _) (.slice ay (List.filter (fun x => !isNo s.no x) m.f).length capy)
      have r3 := h3.row k3 (by omega) (Nat.zero_le _)
      have hint : IntAt (w.heap.size + 1) s.no (w2.setCell ⟨w1.heap.size, 0, none⟩ (.slice ay (List.filter (fun x => !isNo s.no x) m.f).length capy)) := (World.cell?_setCell_other _ _ _ _ (fun e => by simp at e <;> omega)).trans q0
      obtain ⟨i, hi, hpl, hcase⟩ := placed_at (List.filter (fun x => !isNo s.no x) m.f) s
      have HPL := Lib.hid hpl
      have H3 := Lib.hid h3
      have K3 := Lib.hid k3
      have HI := Lib.hid (indexFunc_slot L 0 (by unfold maxLen; omega) (fun w => RSlot L 0 w (RMsg L 0 w n)) (rslot_stands L 0 n) (rslot_three L 0 n) (overNo s.no) 51 #[.pointer (some ⟨w.heap.size + 1, 0, none⟩)] (enters_of Tryz.func51 (by kernel_rfl) rfl)
        (IntAt (w.heap.size + 1) s.no) (intAt_below _ s.no) (fun w' cs x => set_2 L 0 n _ s.no w' cs x) _ _ _ r3 hint)
      have HVS := Lib.hid fun w' (hb : Below w.heap.size w w') => value_slot L 0 n (by omega) w' _ s (HS.out.below hb)
      have HB3 := Lib.hid (HB2.out.setCell (p := ⟨w1.heap.size, 0, none⟩) (by simp only; omega) (.slice ay (List.filter (fun x => !isNo s.no x) m.f).length capy))
      have SK3 : Hid (∃ k, (w2.setCell ⟨w1.heap.size, 0, none⟩ (.slice ay (List.filter (fun x => !isNo s.no x) m.f).length capy)).shape? w1.heap.size = some (28, k)) := by
        obtain ⟨k, hk⟩ := HSK.out
        exact ⟨k, shape_set hk _ _⟩
      have n0 := (World.cell?_setCell_other w2 ⟨w1.heap.size, 0, none⟩ ⟨w.heap.size + 1, 0, none⟩ (.slice ay (List.filter (fun x => !isNo s.no x) m.f).length capy) (fun e => by simp at e <;> omega)).trans q0
      have n1 := (World.cell?_setCell_other w2 ⟨w1.heap.size, 0, none⟩ ⟨w.heap.size + 1, 1, none⟩ (.slice ay (List.filter (fun x => !isNo s.no x) m.f).length capy) (fun e => by simp at e <;> omega)).trans q1
      have n2 := (World.cell?_setCell_other w2 ⟨w1.heap.size, 0, none⟩ ⟨w.heap.size + 1, 2, none⟩ (.slice ay (List.filter (fun x => !isNo s.no x) m.f).length capy) (fun e => by simp at e <;> omega)).trans q2
      have n3 := (World.cell?_setCell_other w2 ⟨w1.heap.size, 0, none⟩ ⟨w.heap.size + 2, 0, none⟩ (.slice ay (List.filter (fun x => !isNo s.no x) m.f).length capy) (fun e => by simp at e <;> omega)).trans y0
      have n4 := World.cell?_setCell_same w2 _ (.slice ay (List.filter (fun x => !isNo s.no x) m.f).length capy) k0
      have HN := Lib.hid (And.intro n0 (And.intro n1 (And.intro n2 (And.intro n3 n4))))
      clear h3 k3 r3 hint hpl n0 n1 n2 n3 n4
      rcases hcase with ⟨hix, rfl⟩ | hix
      all_goals rw [hix] at HI
      all_goals clear hix
      all_goals (
        go_wp2_with fail
        refine HI.out.mono ?_; rintro e w4 ⟨rfl, b4⟩
        obtain ⟨n0, n1, n2, n3, n4⟩ := HN.out
        have x0 := (b4.cell (block_lt_of_cell n0)).trans n0
        have x1 := (b4.cell (block_lt_of_cell n1)).trans n1
        have x2 := (b4.cell (block_lt_of_cell n2)).trans n2
        have x3 := (b4.cell (block_lt_of_cell n3)).trans n3
        have x4 := (b4.cell (block_lt_of_cell n4)).trans n4
        have g3 := (b4.frozen (block_lt_of_cell n3)).trans ((World.frozen?_setCell _ _ _ _).trans fy)
        have g4 := (b4.frozen (block_lt_of_cell n4)).trans ((World.frozen?_setCell _ _ _ _).trans fk)
        have H4 := Lib.hid (H3.out.below b4)
        have K4 := Lib.hid (K3.out.below b4)
        have HB4 := Lib.hid (HB3.out.nx b4)
        have hz4 := b4.size
        have SK4 : Hid (∃ k, w4.shape? w1.heap.size = some (28, k)) := by
          obtain ⟨k, hk⟩ := SK3.out
          exact ⟨k, shape_below hk b4⟩
        have hw14 : w1.heap.size < w4.heap.size := block_lt_of_cell x4
        clear n0 n1 n2 n3 n4 b4 HI H3 K3 HB3 SK3 HN hz4)
      · have hneg : decide ((-1 : Int) < 0) = true := by decide
        go_wp2_with fail
        go_region_with (first
          | (go_at_call 47; (with_reducible refine (HVS.out _ HB4.out.drew).mono ?_); rintro e w5 ⟨ds, rfl, rd, b5⟩;
              (obtain ⟨d0, d1, d2, rfl, o0, o1, o2⟩ := rslot_three L _ n _ _ _ rd); (have RD := Lib.hid rd);
              (have B5 := Lib.hid ((Below.refl w4.heap.size w4).drew.trans b5));
              (have v3 := (B5.out.cell (block_lt_of_cell x3)).trans x3); (have v4 := (B5.out.cell (block_lt_of_cell x4)).trans x4); (have l4 : w1.heap.size < w5.heap.size := block_lt_of_cell v4);
              (have u3 := (B5.out.frozen (block_lt_of_cell x3)).trans g3); (have u4 := (B5.out.frozen (block_lt_of_cell x4)).trans g4); clear rd b5)
          | (go_at_call 52;
              (with_reducible refine (ins_own L (w.heap.size + 3) w4.heap.size n (List.filter (fun x => !isNo s.no x) m.f).length w5.heap.size w1.heap.size hL (w5.alloc (.cells #[d0, d1, d2] 35)) w1 _ _ ?_ (H4.out.below (B5.out.alloc ?_ _)) (K4.out.below (B5.out.alloc ?_ _)) hi (d0, d1, d2) s ?_ ?_ ?_ ?_ ?_ ?_ ?_ ?_).mono ?_);
              (omega); (exact B5.out.size); (exact B5.out.size); (exact heap_alloc_new w5 _); (exact rslot_keepB L n _ _ _ _ _ _ (Nat.le_refl _) (.of_below (al1 w5 _)) RD.out);
              (omega); (exact fun g hg => ⟨by have := hg3 g hg; omega, by have := hg3 g hg; have := B5.out.size; omega⟩); (simp; have := B5.out.size; omega);
              (obtain ⟨k, hk⟩ := SK4.out; exact ⟨k, shape_below (shape_below hk B5.out) (al1 w5 _)⟩); (exact Nat.le_refl _); (exact hw14);
              rintro e w6 ⟨v6, rfl, ⟨a6, cap6, rfl⟩, h6, hf6⟩;
              (have H6 := Lib.hid h6); (have HF := Lib.hid hf6);
              (have t3 := h6.cell (al_cell (o := .cells #[d0, d1, d2] 35) v3) (fun e => by have := hg3 _ e.symm; simp only at this; omega));
              (have t4 := h6.cell (al_cell (o := .cells #[d0, d1, d2] 35) v4) (fun e => by have := hg3 _ e.symm; simp only at this; omega));
              (have s3 := (frozen_grown h6 (a := ⟨w.heap.size + 2, 0, none⟩) (by simp; have := block_lt_of_cell v3; simp only at this; omega) (fun e => by have := hg3 _ e.symm; simp only at this; omega)).trans ((al_frozen (o := .cells #[d0, d1, d2] 35) (p := ⟨w.heap.size + 2, 0, none⟩) (block_lt_of_cell v3)).trans u3));
              (have s4 := (frozen_grown h6 (a := ⟨w1.heap.size, 0, none⟩) (by simp; have := block_lt_of_cell v4; simp only at this; omega) (fun e => by have := hg3 _ e.symm; simp only at this; omega)).trans ((al_frozen (o := .cells #[d0, d1, d2] 35) (p := ⟨w1.heap.size, 0, none⟩) (block_lt_of_cell v4)).trans u4));
              clear h6 hf6))
        all_goals go_wp2_with fail
        all_goals (
          have yK : (w6.setCell ⟨w1.heap.size, 0, none⟩ (.slice a6 ((List.filter (fun x => !isNo s.no x) m.f).length + 1) cap6)).cell? ⟨w.heap.size + 1 + 1, 0, none⟩ = some (.slice none 0 0) := (World.cell?_setCell_other _ _ _ _ (fun e => by simp at e <;> omega)).trans t3
          have hF := HF.out ((w6.setCell ⟨w1.heap.size, 0, none⟩ (.slice a6 ((List.filter (fun x => !isNo s.no x) m.f).length + 1) cap6)).setCell ⟨w.heap.size + 1 + 1, 0, none⟩ (.slice a6 ((List.filter (fun x => !isNo s.no x) m.f).length + 1) cap6))
            (fun p u hp hne hu => (World.cell?_setCell_other _ _ _ _ (fun e => by subst e; simp only at hp; omega)).trans ((World.cell?_setCell_other _ _ _ _ (fun e => hne (by subst e; rfl))).trans hu))
          have b6 := ((HB4.out.nx B5.out).alloc (by have := HB4.out.size; have := B5.out.size; omega) (.cells #[d0, d1, d2] 35)).grown H6.out (by simp; have := HB4.out.size; have := B5.out.size; omega) (fun g h => by have := hg3 g h; omega)
          refine bodyPost_ret (v := .agg #[.slice a6 ((List.filter (fun x => !isNo s.no x) m.f).length + 1) cap6]) (results_cell_mid rfl _ _ (w.heap.size + 2) 0 [_] _ rfl (range_one (World.cell?_setCell_same _ _ _ yK)) Tryz.underlying28 rfl (by kernel_rfl)) rfl ⟨_, rfl, ⟨_, rfl, ?_⟩, (b6.setCell (p := ⟨w1.heap.size, 0, none⟩) (by simp only; omega) _).setCell (p := ⟨w.heap.size + 1 + 1, 0, none⟩) (by simp only; omega) _⟩
          unfold setSlot Msg.f
          rw [if_neg HSV.out]
          unfold without
          rw [HPL.out]
          exact hF.gen hF.len (by omega) (Keeps.refl _ _) fun cs x _ h => rslot_keepB L n _ _ _ _ _ _ (by omega) (Keeps.refl _ _) h)
      · have hneg : decide ((i : Int) < 0) = false := by simp
        go_wp2_with fail
        go_region_with (first
          | (go_at_call 47; (with_reducible refine (HVS.out _ HB4.out.drew).mono ?_); rintro e w5 ⟨ds, rfl, rd, b5⟩;
              (obtain ⟨d0, d1, d2, rfl, o0, o1, o2⟩ := rslot_three L _ n _ _ _ rd); (have RD := Lib.hid rd);
              (have B5 := Lib.hid ((Below.refl w4.heap.size w4).drew.trans b5));
              (have v3 := (B5.out.cell (block_lt_of_cell x3)).trans x3); (have v4 := (B5.out.cell (block_lt_of_cell x4)).trans x4); (have l4 : w1.heap.size < w5.heap.size := block_lt_of_cell v4);
              (have u3 := (B5.out.frozen (block_lt_of_cell x3)).trans g3); (have u4 := (B5.out.frozen (block_lt_of_cell x4)).trans g4); clear rd b5)
          | (go_at_call 52;
              (with_reducible refine (ins_own L (w.heap.size + 3) w4.heap.size n i w5.heap.size w1.heap.size hL (w5.alloc (.cells #[d0, d1, d2] 35)) w1 _ _ ?_ (H4.out.below (B5.out.alloc ?_ _)) (K4.out.below (B5.out.alloc ?_ _)) hi (d0, d1, d2) s ?_ ?_ ?_ ?_ ?_ ?_ ?_ ?_).mono ?_);
              (omega); (exact B5.out.size); (exact B5.out.size); (exact heap_alloc_new w5 _); (exact rslot_keepB L n _ _ _ _ _ _ (Nat.le_refl _) (.of_below (al1 w5 _)) RD.out);
              (omega); (exact fun g hg => ⟨by have := hg3 g hg; omega, by have := hg3 g hg; have := B5.out.size; omega⟩); (simp; have := B5.out.size; omega);
              (obtain ⟨k, hk⟩ := SK4.out; exact ⟨k, shape_below (shape_below hk B5.out) (al1 w5 _)⟩); (exact Nat.le_refl _); (exact hw14);
              rintro e w6 ⟨v6, rfl, ⟨a6, cap6, rfl⟩, h6, hf6⟩;
              (have H6 := Lib.hid h6); (have HF := Lib.hid hf6);
              (have t3 := h6.cell (al_cell (o := .cells #[d0, d1, d2] 35) v3) (fun e => by have := hg3 _ e.symm; simp only at this; omega));
              (have t4 := h6.cell (al_cell (o := .cells #[d0, d1, d2] 35) v4) (fun e => by have := hg3 _ e.symm; simp only at this; omega));
              (have s3 := (frozen_grown h6 (a := ⟨w.heap.size + 2, 0, none⟩) (by simp; have := block_lt_of_cell v3; simp only at this; omega) (fun e => by have := hg3 _ e.symm; simp only at this; omega)).trans ((al_frozen (o := .cells #[d0, d1, d2] 35) (p := ⟨w.heap.size + 2, 0, none⟩) (block_lt_of_cell v3)).trans u3));
              (have s4 := (frozen_grown h6 (a := ⟨w1.heap.size, 0, none⟩) (by simp; have := block_lt_of_cell v4; simp only at this; omega) (fun e => by have := hg3 _ e.symm; simp only at this; omega)).trans ((al_frozen (o := .cells #[d0, d1, d2] 35) (p := ⟨w1.heap.size, 0, none⟩) (block_lt_of_cell v4)).trans u4));
              clear h6 hf6))
        all_goals go_wp2_with fail
        all_goals (
          have yK : (w6.setCell ⟨w1.heap.size, 0, none⟩ (.slice a6 ((List.filter (fun x => !isNo s.no x) m.f).length + 1) cap6)).cell? ⟨w.heap.size + 1 + 1, 0, none⟩ = some (.slice none 0 0) := (World.cell?_setCell_other _ _ _ _ (fun e => by simp at e <;> omega)).trans t3
          have hF := HF.out ((w6.setCell ⟨w1.heap.size, 0, none⟩ (.slice a6 ((List.filter (fun x => !isNo s.no x) m.f).length + 1) cap6)).setCell ⟨w.heap.size + 1 + 1, 0, none⟩ (.slice a6 ((List.filter (fun x => !isNo s.no x) m.f).length + 1) cap6))
            (fun p u hp hne hu => (World.cell?_setCell_other _ _ _ _ (fun e => by subst e; simp only at hp; omega)).trans ((World.cell?_setCell_other _ _ _ _ (fun e => hne (by subst e; rfl))).trans hu))
          have b6 := ((HB4.out.nx B5.out).alloc (by have := HB4.out.size; have := B5.out.size; omega) (.cells #[d0, d1, d2] 35)).grown H6.out (by simp; have := HB4.out.size; have := B5.out.size; omega) (fun g h => by have := hg3 g h; omega)
          refine bodyPost_ret (v := .agg #[.slice a6 ((List.filter (fun x => !isNo s.no x) m.f).length + 1) cap6]) (results_cell_mid rfl _ _ (w.heap.size + 2) 0 [_] _ rfl (range_one (World.cell?_setCell_same _ _ _ yK)) Tryz.underlying28 rfl (by kernel_rfl)) rfl ⟨_, rfl, ⟨_, rfl, ?_⟩, (b6.setCell (p := ⟨w1.heap.size, 0, none⟩) (by simp only; omega) _).setCell (p := ⟨w.heap.size + 1 + 1, 0, none⟩) (by simp only; omega) _⟩
          unfold setSlot Msg.f
          rw [if_neg HSV.out]
          unfold without
          rw [HPL.out]
          exact hF.gen hF.len (by omega) (Keeps.refl _ _) fun cs x _ h => rslot_keepB L n _ _ _ _ _ _ (by omega) (Keeps.refl _ _) h)
end
end Go.Proofs.YthikfifoomfjgaaGreat
