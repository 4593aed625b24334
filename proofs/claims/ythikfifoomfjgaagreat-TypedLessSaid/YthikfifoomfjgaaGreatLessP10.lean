/- A message without one of its slots: plain laws, and the row in memory. A row of one's own without one of its slots, in its place. -/
import Derived.Test.YthikfifoomfjgaaGreatNormP10
import Derived.Test.YthikfifoomfjgaaGreatSetP
import Derived.Test.YthikfifoomfjgaaGreatOwnP10
import Derived.ArgAppend
namespace Go.Proofs.YthikfifoomfjgaaGreat
open Go.RowKit Go.Tr Go.WideMaps Go.Maps Go.Proofs.YthikfifoomfjgaaGreat.PA Go.Proofs.YthikfifoomfjgaaGreatW.PrintWords Go.Proofs.YthikfifoomfjgaaGreatW.PrintLast Go.Proofs.YthikfifoomfjgaaGreatW.PrintMore
set_option maxRecDepth 100000
set_option linter.unusedVariables false
set_option linter.unusedSimpArgs false
/-- All slots but one. -/
def less (l : List Slot) (i : Nat) : List Slot := l.take i ++ l.drop (i + 1)
theorem split_at {l : List Slot} {i : Nat} (h : i < l.length) : l = l.take i ++ l[i] :: l.drop (i + 1) := by
  rw [← List.drop_eq_getElem_cons h, List.take_append_drop]
theorem less_sub (l : List Slot) (i : Nat) : (less l i).Sublist l := by
  unfold less
  by_cases h : i < l.length
  · conv => rhs; rw [split_at h]
    exact (List.Sublist.refl _).append ((List.Sublist.refl _).cons _)
  · rw [List.drop_eq_nil_of_le (by omega), List.append_nil]
    exact List.take_sublist _ _
theorem less_ok {S : Sch} {n : Nat} {m : Int} {x : Msg} (i : Nat) (h : mayOk S (n + 1) m x = true) : mayOk S (n + 1) m (.mk (less x.f i)) = true := by
  have hs := less_sub x.f i
  unfold mayOk at h ⊢
  simp only [Bool.and_eq_true, decide_eq_true_eq] at h ⊢
  obtain ⟨h1, h2, h3⟩ := h
  refine ⟨?_, h2, ?_⟩
  · have : (Msg.mk (less x.f i)).deep ≤ x.deep := deep_le_of fun u hu => by
      obtain ⟨y, hy, v, hv, hu⟩ := mem_subs.1 hu
      exact ⟨u, mem_subs.2 ⟨y, hs.subset hy, v, hv, hu⟩, Nat.le_refl _⟩
    omega
  · rw [msgOk_iff] at h3 ⊢
    exact ⟨⟨h3.1.1.sublist hs, fun y hy => h3.1.2 y (hs.subset hy)⟩, h3.2⟩
theorem empty_ok {S : Sch} {n : Nat} {m : Int} {x : Msg} (h : mayOk S (n + 1) m x = true) : mayOk S (n + 1) m (.mk []) = true ∧ nrm S (n + 1) m (.mk []) = .mk [] := by
  have hm : mayOk S (n + 1) m (.mk []) = true := by
    unfold mayOk at h ⊢
    simp only [Bool.and_eq_true, decide_eq_true_eq] at h ⊢
    obtain ⟨h1, h2, h3⟩ := h
    refine ⟨?_, h2, ?_⟩
    · have : (Msg.mk []).deep ≤ x.deep := deep_le_of fun u hu => by
        obtain ⟨y, hy, -⟩ := mem_subs.1 hu
        simp [Msg.f] at hy
      omega
    · rw [msgOk_iff] at h3 ⊢
      exact ⟨⟨by simp [Msg.f], by simp [Msg.f]⟩, h3.2⟩
  refine ⟨hm, ?_⟩
  unfold nrm
  rw [if_pos hm, norm]
  simp [Msg.f, sortNo]
theorem placed_perm (r : List Slot) (s : Slot) : (placed r s).Perm (s :: r) := by
  unfold placed
  have h := List.take_append_drop ((r.findIdx? (overNo s.no)).getD r.length) r
  conv => rhs; rw [← h]
  exact List.perm_middle
theorem placed_sorted {r : List Slot} {s : Slot} (h : r.Pairwise fun a b => a.no ≤ b.no) : (placed r s).Pairwise fun a b => a.no ≤ b.no := by
  unfold placed
  cases hi : r.findIdx? (overNo s.no) with
  | none =>
    simp only [Option.getD_none]
    rw [List.take_length, List.drop_length, List.pairwise_append]
    refine ⟨h, by simp, fun a ha b hb => ?_⟩
    simp at hb
    subst hb
    have := List.findIdx?_eq_none_iff.1 hi a ha
    simp [overNo] at this
    omega
  | some i =>
    simp only [Option.getD_some]
    obtain ⟨hi1, hi2, hi3⟩ := List.findIdx?_eq_some_iff_getElem.1 hi
    have hp := List.pairwise_iff_getElem.1 h
    rw [List.pairwise_append]
    refine ⟨h.sublist (List.take_sublist _ _), List.pairwise_cons.2 ⟨fun b hb => ?_, h.sublist (List.drop_sublist _ _)⟩, fun a ha b hb => ?_⟩
    · obtain ⟨t, ht, rfl⟩ := List.mem_iff_getElem.1 hb
      rw [List.getElem_drop]
      simp [overNo] at hi2
      by_cases e : t = 0
      · subst e; simp; omega
      · have := hp i (i + t) hi1 (by simp at ht; omega) (by omega)
        omega
    · obtain ⟨t, ht, rfl⟩ := List.mem_iff_getElem.1 ha
      have ht' : t < i := by simp at ht; omega
      have h3 := hi3 t ht'
      simp [overNo] at h3
      rw [List.getElem_take]
      rcases List.mem_cons.1 hb with rfl | hb
      · omega
      · obtain ⟨u, hu, rfl⟩ := List.mem_iff_getElem.1 hb
        rw [List.getElem_drop]
        exact hp t (i + u) (by omega) (by simp at hu; omega) (by omega)
/-- What the statement says of a slot that is gone. -/
theorem law_less (S : Sch) (n : Nat) (m : Int) (x : Msg) (i : Nat) (hi : i < x.f.length) (h : mayOk S (n + 1) m x = true) :
    hasSlot (norm S (n + 1) m (.mk (less x.f i))) x.f[i].no = false ∧ (hasSlot (norm S (n + 1) m x) x.f[i].no = false → norm S (n + 1) m (.mk (less x.f i)) = norm S (n + 1) m x) ∧
    (hasSlot (norm S (n + 1) m x) x.f[i].no = true → setSlot (norm S (n + 1) m (.mk (less x.f i))) (getSlot (norm S (n + 1) m x) x.f[i].no) = norm S (n + 1) m x) := by
  have hm : msgOk S (n + 1) m x = true := by unfold mayOk at h; simp only [Bool.and_eq_true] at h; exact h.2.2
  rw [msgOk_iff] at hm
  obtain ⟨hA, -⟩ := hm
  have hnd := hA.nodup
  have hsplit := split_at hi
  obtain ⟨f, hf, hok⟩ := hA.2 _ (List.getElem_mem hi)
  have hz : (x.f.flatMap (normSlot S (norm S n) m)) = (x.f.take i).flatMap (normSlot S (norm S n) m) ++ (normSlot S (norm S n) m x.f[i] ++ (x.f.drop (i + 1)).flatMap (normSlot S (norm S n) m)) := by
    conv => lhs; rw [hsplit]
    rw [List.flatMap_append, List.flatMap_cons]
  have hz' : ((less x.f i).flatMap (normSlot S (norm S n) m)) = (x.f.take i).flatMap (normSlot S (norm S n) m) ++ (x.f.drop (i + 1)).flatMap (normSlot S (norm S n) m) := by
    unfold less; rw [List.flatMap_append]
  have hfk : (norm S (n + 1) m (.mk (less x.f i))).f = sortNo ((less x.f i).flatMap (normSlot S (norm S n) m)) := norm_succ S n m (.mk (less x.f i))
  have hfn := norm_succ S n m x
  have hndl : ((less x.f i).map fun y => y.no).Nodup := hnd.sublist ((less_sub x.f i).map _)
  have hnl : ∀ y ∈ less x.f i, y.no ≠ x.f[i].no := fun y hy e => by
    have h1 : (x.f.map fun y => y.no) = (x.f.take i).map (fun y => y.no) ++ x.f[i].no :: (x.f.drop (i + 1)).map (fun y => y.no) := by
      conv => lhs; rw [hsplit]
      rw [List.map_append, List.map_cons]
    rw [h1] at hnd
    have h2 := (List.perm_middle.nodup_iff).1 hnd
    rw [List.nodup_cons] at h2
    refine h2.1 ?_
    rw [← List.map_append, ← e]
    exact List.mem_map.2 ⟨y, hy, rfl⟩
  have hkno : ∀ z ∈ (less x.f i).flatMap (normSlot S (norm S n) m), z.no ≠ x.f[i].no := fun z hz => by
    obtain ⟨y, hy, hz⟩ := List.mem_flatMap.1 hz
    rw [normSlot_no hz]
    exact hnl y hy
  have hfalse : hasSlot (norm S (n + 1) m (.mk (less x.f i))) x.f[i].no = false := by
    unfold hasSlot
    rw [hfk, List.any_eq_false]
    intro z hz
    have := hkno z ((sortNo_perm _).mem_iff.1 hz)
    simpa [isNo] using this
  refine ⟨hfalse, fun hh => ?_, fun hh => ?_⟩
  · have hg : gone f x.f[i] = true := by
      cases hg : gone f x.f[i] with
      | true => rfl
      | false =>
        have : hasSlot (norm S (n + 1) m x) x.f[i].no = true := by
          unfold hasSlot
          rw [hfn, List.any_eq_true]
          refine ⟨normOf S (norm S n) f x.f[i], (sortNo_perm _).mem_iff.2 ?_, by simp [isNo, normOf]⟩
          rw [hz, normSlot_some hf, hg]
          simp
        rw [hh] at this; cases this
    have e : (less x.f i).flatMap (normSlot S (norm S n) m) = x.f.flatMap (normSlot S (norm S n) m) := by
      rw [hz, hz', normSlot_some hf, hg]
      simp
    rw [norm, norm]
    show Msg.mk (sortNo ((less x.f i).flatMap _)) = _
    rw [e]
  · have hg : gone f x.f[i] = false := by
      cases hg : gone f x.f[i] with
      | false => rfl
      | true =>
        have e : (less x.f i).flatMap (normSlot S (norm S n) m) = x.f.flatMap (normSlot S (norm S n) m) := by
          rw [hz, hz', normSlot_some hf, hg]
          simp
        unfold hasSlot at hh hfalse
        rw [hfn, ← e, ← hfk, hfalse] at hh
        cases hh
    have hmem : normOf S (norm S n) f x.f[i] ∈ sortNo (x.f.flatMap (normSlot S (norm S n) m)) := (sortNo_perm _).mem_iff.2 (by rw [hz, normSlot_some hf, hg]; simp)
    have hndn : ((x.f.flatMap (normSlot S (norm S n) m)).map fun y => y.no).Nodup := normSlots_nodup S _ m x.f hnd
    have hget : getSlot (norm S (n + 1) m x) x.f[i].no = normOf S (norm S n) f x.f[i] := by
      unfold getSlot
      rw [hfn]
      cases hfi : (sortNo (x.f.flatMap (normSlot S (norm S n) m))).find? (isNo x.f[i].no) with
      | none =>
        have := List.find?_eq_none.1 hfi _ hmem
        simp [isNo, normOf] at this
      | some u =>
        have h1 := List.mem_of_find?_eq_some hfi
        have h2 := List.find?_some hfi
        simp only [Option.getD_some]
        refine nodup_map_inj (f := fun y : Slot => y.no) (((sortNo_perm _).map _).nodup_iff.2 hndn) h1 hmem ?_
        simpa [isNo, normOf] using h2
    rw [hget]
    have hgn := gone_norm (S := S) (rec := norm S n) hok hg
    have hv : (normOf S (norm S n) f x.f[i]).v ≠ [] := fun e => by unfold gone at hgn; rw [e] at hgn; cases hgn
    have hno : (normOf S (norm S n) f x.f[i]).no = x.f[i].no := rfl
    have hw : without (norm S (n + 1) m (.mk (less x.f i))) x.f[i].no = sortNo ((less x.f i).flatMap (normSlot S (norm S n) m)) := by
      unfold without
      rw [hfk]
      refine List.filter_eq_self.2 fun z hz => ?_
      have := hkno z ((sortNo_perm _).mem_iff.1 hz)
      simpa [isNo] using this
    unfold setSlot
    rw [if_neg hv, hno, hw]
    conv => rhs; rw [norm]
    congr 1
    refine sortNo_eq ?_ (placed_sorted (sortNo_sorted _)) hndn
    refine (placed_perm _ _).trans ?_
    refine ((sortNo_perm _).cons _).trans ?_
    rw [hz, hz', normSlot_some hf, hg]
    simp only [Bool.false_eq_true, if_false, List.cons_append, List.nil_append]
    exact List.perm_middle.symm
end Go.Proofs.YthikfifoomfjgaaGreat
namespace Go.Proofs.YthikfifoomfjgaaGreat
open Go.RowKit Go.Tr
set_option maxRecDepth 100000
set_option linter.unusedVariables false
set_option linter.unusedSimpArgs false
theorem rslot_one {L b n : Nat} {w : World} {cs : List Value} {x : Slot} (h : RSlot L b w (RMsg L b w n) cs x) : ∀ u ∈ cs, u.oneCell' = true := by
  obtain ⟨c, d, rfl, -, -, hc, hd⟩ := h
  obtain ⟨a, cap, rfl, -⟩ := hc
  obtain ⟨a', cap', rfl, -⟩ := hd
  intro u hu
  simp at hu
  rcases hu with rfl | rfl | rfl <;> rfl
/-- The row, ahead of the append. -/
theorem less_open {L n base : Nat} {w1 : World} {v : Value} {xs : List Slot} (h : Grown 35 3 base w1 (fun b w cs s => RSlot L b w (RMsg L b w n) cs s) v xs) (i : Nat) (hi : i < xs.length) :
    ∃ (g cap : Nat) (news : List Value), v = .slice (some ⟨g, 0, none⟩) xs.length cap ∧ base ≤ g ∧ g < w1.heap.size ∧ xs.length ≤ cap ∧ cap ≤ maxLen ∧ news.length = (xs.length - (i + 1)) * 3 ∧ (∀ u ∈ news, u.oneCell' = true) ∧
      (∀ W : World, Below w1.heap.size w1 W → (∀ j u, news[j]? = some u → W.cell? ⟨g, (i + 1) * 3 + j, none⟩ = some u) ∧ ∀ j, j < news.length → (W.cell? ⟨g, 0 + i * 3 + j, none⟩).isSome = true ∧ W.frozen? ⟨g, 0 + i * 3 + j, none⟩ = false) ∧
      (∀ (W : World) (u : Value), Below w1.heap.size w1 W → xs.length ≤ L → ∃ W', W' = (W.setCells g (0 + i * 3) news).setCell ⟨w1.heap.size, 0, none⟩ u ∧ RMsg L 0 W' (n + 1) [.slice (some ⟨g, 0, none⟩) (i + (xs.length - (i + 1))) cap] (.mk (xs.take i ++ xs.drop (i + 1)))) := by
  obtain ⟨ys, ⟨h1, h2⟩, hp⟩ := h
  rcases h2 with ⟨-, h2⟩ | ⟨g, cap, cur, h3, h4, h5, h6, h7, h8, h9⟩
  · omega
  subst h3
  have hg : g < w1.heap.size := lt_blk h5
  have hys : ∀ j u, ys[j]? = some u → cur[j]? = some u := fun j u hj => by
    rw [← h9, List.getElem?_take] at hj
    split at hj
    · simpa using hj
    · cases hj
  have hblk : ∀ W : World, Below w1.heap.size w1 W → W.heap[g]? = some (.cells cur 35 (0, 0)) := fun W hW => (hW.block g hg).trans h5
  have hcell : ∀ W : World, Below w1.heap.size w1 W → ∀ j u, ys[j]? = some u → W.cell? ⟨g, j, none⟩ = some u := fun W hW j u hj => by
    rw [cell_of_row W g j _ _ _ (hblk W hW)]
    exact hys j u hj
  have hnl : (ys.drop ((i + 1) * 3)).length = (xs.length - (i + 1)) * 3 := by rw [List.length_drop, h1, Nat.sub_mul]
  have hthere : ∀ W : World, Below w1.heap.size w1 W → ∀ j, j < (ys.drop ((i + 1) * 3)).length → (W.cell? ⟨g, 0 + i * 3 + j, none⟩).isSome = true := fun W hW j hj => by
    rw [hnl] at hj
    have hlt : i * 3 + j < ys.length := by rw [h1]; omega
    rw [Nat.zero_add, hcell W hW (i * 3 + j) ys[i * 3 + j] (List.getElem?_eq_getElem hlt)]
    rfl
  refine ⟨g, cap, ys.drop ((i + 1) * 3), rfl, h4, hg, h6, h7, hnl, ?_, ?_, ?_⟩
  · intro u hu
    obtain ⟨q, hq, rfl⟩ := List.mem_iff_getElem.1 (List.mem_of_mem_drop hu)
    have ht : q / 3 < xs.length := by omega
    obtain ⟨cs, e1, e2, b, wi, -, e3, -⟩ := hp (q / 3) ht ht
    have hm : q % 3 < cs.length := by omega
    have h := e2 (q % 3) cs[q % 3] (List.getElem?_eq_getElem hm)
    rw [show q / 3 * 3 + q % 3 = q by omega, List.getElem?_eq_getElem hq] at h
    injection h with h
    rw [h]
    exact rslot_one e3 _ (List.getElem_mem hm)
  · intro W hW
    refine ⟨fun j u hj => ?_, fun j hj => ⟨hthere W hW j hj, ?_⟩⟩
    · rw [List.getElem?_drop] at hj
      exact hcell W hW _ _ hj
    · simp [World.frozen?, hblk W hW, go_sem]
  · intro W u hW hL
    refine ⟨_, rfl, ?_⟩
    generalize hW' : (W.setCells g (0 + i * 3) (ys.drop ((i + 1) * 3))).setCell ⟨w1.heap.size, 0, none⟩ u = W'
    have hlow : ∀ j u, j < i * 3 → ys[j]? = some u → W'.cell? ⟨g, j, none⟩ = some u := fun j u hj hu => by
      rw [← hW', World.cell?_setCell_other _ _ _ _ (fun e => by have := congrArg Addr.block e; simp at this; omega), World.cell?_setCells_out _ _ _ _ _ (fun _ _ => .inl (by show j < 0 + i * 3; omega))]
      exact hcell W hW j u hu
    have hhigh : ∀ j u, ys[(i + 1) * 3 + j]? = some u → W'.cell? ⟨g, i * 3 + j, none⟩ = some u := fun j u hu => by
      have hj : j < (ys.drop ((i + 1) * 3)).length := by
        have := (List.getElem?_eq_some_iff.1 hu).1
        rw [List.length_drop]; omega
      have h := World.cell?_setCells_in g (ys.drop ((i + 1) * 3)) (0 + i * 3) W (hthere W hW) j hj
      rw [← hW', World.cell?_setCell_other _ _ _ _ (fun e => by have := congrArg Addr.block e; simp at this; omega)]
      rw [show i * 3 + j = 0 + i * 3 + j by omega, h, ← hu, ← List.getElem?_drop, List.getElem?_eq_getElem hj]
    have hel : ∀ cs x, El base w1 (fun b w cs s => RSlot L b w (RMsg L b w n) cs s) (.slice (some ⟨g, 0, none⟩) xs.length cap) cs x → RSlot L 0 W' (RMsg L 0 W' n) cs x := fun cs x hx => by
      obtain ⟨b, wi, e1, e2, e3, e4, e5⟩ := hx
      refine rslot_keepB L n b 0 wi W' cs x (Nat.zero_le _) (fun p v hp hv => ?_) e2
      have hlt : p.block < wi.heap.size := block_lt_of_cell hv
      have hne : p.block ≠ g := fun e => by
        have := e5 g rfl
        omega
      rw [← hW', World.cell?_setCell_other _ _ _ _ (fun e => by rw [← e] at hlt; simp at hlt; omega), World.cell?_setCells_out _ _ _ _ _ (fun e _ => absurd e hne)]
      exact (hW.cell (show p.block < w1.heap.size by omega)).trans (e3 p v hp hv)
    have hll : (xs.take i ++ xs.drop (i + 1)).length = i + (xs.length - (i + 1)) := by simp; omega
    refine ⟨_, rfl, some ⟨g, 0, none⟩, cap, by rw [show (Msg.mk (xs.take i ++ xs.drop (i + 1))).f = xs.take i ++ xs.drop (i + 1) from rfl, hll], ?_⟩
    show (xs.take i ++ xs.drop (i + 1)).length ≤ L ∧ (xs.take i ++ xs.drop (i + 1)).length ≤ cap ∧ _
    refine ⟨by omega, by omega, h7, by simp, fun _ => ⟨g, 0, rfl, Nat.zero_le _, fun t ht => ?_⟩⟩
    have ht' : t < (xs.take i ++ xs.drop (i + 1)).length := ht
    by_cases hti : t < i
    · obtain ⟨cs, e1, e2, e3⟩ := hp t (by omega) (by omega)
      refine ⟨cs, e1, fun j u hj => ?_, ?_⟩
      · have hj3 : j < 3 := by rw [← e1]; exact (List.getElem?_eq_some_iff.1 hj).1
        have := hlow (t * 3 + j) u (by omega) (e2 j u hj)
        simpa using this
      · have he : (xs.take i ++ xs.drop (i + 1))[t]'ht' = xs[t] := by
          rw [List.getElem_append_left (by simp; omega), List.getElem_take]
        show RSlot L 0 W' (RMsg L 0 W' n) cs ((xs.take i ++ xs.drop (i + 1))[t]'ht')
        rw [he]
        exact hel cs _ e3
    · obtain ⟨cs, e1, e2, e3⟩ := hp (t + 1) (by omega) (by omega)
      refine ⟨cs, e1, fun j u hj => ?_, ?_⟩
      · have := hhigh ((t - i) * 3 + j) u (by rw [show (i + 1) * 3 + ((t - i) * 3 + j) = (t + 1) * 3 + j by omega]; exact e2 j u hj)
        rw [show 0 + t * 3 + j = i * 3 + ((t - i) * 3 + j) by omega]
        exact this
      · have he : (xs.take i ++ xs.drop (i + 1))[t]'ht' = xs[t + 1]'(by omega) := by
          rw [List.getElem_append_right (by simp; omega), List.getElem_drop]
          congr 1
          simp; omega
        show RSlot L 0 W' (RMsg L 0 W' n) cs ((xs.take i ++ xs.drop (i + 1))[t]'ht')
        rw [he]
        exact hel cs _ e3
end Go.Proofs.YthikfifoomfjgaaGreat
