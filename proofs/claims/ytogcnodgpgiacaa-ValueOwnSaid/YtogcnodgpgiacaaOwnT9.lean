/- Contract of value.Own once more, with the types of the blocks that it makes: what is written into one kind of block leaves the others. -/
import Derived.Test.YtogcnodgpgiacaaOwn
namespace Go.Tr
open Go.RowKit
set_option linter.unusedVariables false
set_option linter.unusedSimpArgs false
/-- A block's element type. -/
def typ (w : World) (b : Nat) : Option TypeId := match w.heap[b]? with
  | some (.cells _ t f) => if f = (0, 0) then some t else none
  | _ => none
theorem typ_of {w : World} {b : Nat} {c : Array Value} {t : TypeId} (h : w.heap[b]? = some (.cells c t (0, 0))) : typ w b = some t := by unfold typ; rw [h]; rfl
theorem typ_frozen {w : World} {b : Nat} {t : TypeId} (h : typ w b = some t) (o : Nat) : w.frozen? ⟨b, o, none⟩ = false := by
  unfold typ at h
  split at h
  · rename_i c t' f e
    split at h
    · rename_i hf
      subst hf
      simp [World.frozen?, e]
    · cases h
  · cases h
theorem typ_eq {w w' : World} {b : Nat} (h : w'.heap[b]? = w.heap[b]?) : typ w' b = typ w b := by unfold typ; rw [h]
theorem typ_lt {w : World} {b : Nat} {t : TypeId} (h : typ w b = some t) : b < w.heap.size := by
  unfold typ at h
  cases e : w.heap[b]? with
  | none => rw [e] at h; cases h
  | some o => exact (Array.getElem?_eq_some_iff.1 e).1
theorem typ_set (w : World) (p : Addr) (u : Value) (b : Nat) : typ (w.setCell p u) b = typ w b := by
  unfold typ
  simp only [World.setCell, Array.getElem?_modify]
  by_cases e : p.block = b
  · subst e
    simp only [if_pos]
    cases h : w.heap[p.block]? with
    | none => rfl
    | some o => cases o <;> simp [h]
  · simp only [if_neg e]
def KeepsT (B : Nat) (w w' : World) : Prop := Keeps B w w' ∧ ∀ b t, B ≤ b → typ w b = some t → typ w' b = some t
theorem KeepsT.of_below {B : Nat} {w w' : World} (h : Below w.heap.size w w') : KeepsT B w w' := ⟨.of_below h, fun b t _ ht => (typ_eq (h.block b (typ_lt ht))).trans ht⟩
theorem KeepsT.refl (B : Nat) (w : World) : KeepsT B w w := ⟨.refl _ _, fun _ _ _ h => h⟩
theorem KeepsT.trans {B : Nat} {a b c : World} (h : KeepsT B a b) (k : KeepsT B b c) : KeepsT B a c := ⟨h.1.trans k.1, fun g t hg ht => k.2 g t hg (h.2 g t hg ht)⟩
theorem KeepsT.mono {B B' : Nat} {a b : World} (h : KeepsT B a b) (hB : B ≤ B') : KeepsT B' a b := ⟨h.1.mono hB, fun g t hg ht => h.2 g t (Nat.le_trans hB hg) ht⟩
theorem KeepsT.grown {B : Nat} {a b : World} {row : Option Nat} (h : a.grownBy b row) (hr : ∀ k, row = some k → k < B) : KeepsT B a b :=
  ⟨.grown h hr, fun g t hg ht => (typ_eq (h.block g (typ_lt ht) fun e => by have := hr _ e.symm; omega)).trans ht⟩
theorem KeepsT.set {B : Nat} {w w' : World} (h : KeepsT B w w') {p : Addr} (hp : p.block < B) (u : Value) : KeepsT B w (w'.setCell p u) := ⟨h.1.set hp u, fun b t hb ht => (typ_set w' p u b).trans (h.2 b t hb ht)⟩
/-- A row of messages of one's own. -/
def TM (B : Nat) (w : World) (c : Value) : Prop := c = .slice none 0 0 ∨ ∃ g l, c = .slice (some ⟨g, 0, none⟩) l l ∧ l ≤ 1099511627776 ∧ B ≤ g ∧ typ w g = some 24 ∧ ∀ i, i < l → (w.cell? ⟨g, i, none⟩).isSome = true
def TVv (B : Nat) (w : World) (cs : List Value) : Prop := ∃ n s c, cs = [.int .i64 n, s, c] ∧ TM B w c
def TV (B : Nat) (w : World) (d : Value) : Prop := d = .slice none 0 0 ∨ ∃ g l, d = .slice (some ⟨g, 0, none⟩) l l ∧ l ≤ 1099511627776 ∧ B ≤ g ∧ typ w g = some 38 ∧ ∀ i, i < l → ∃ n c, w.cell? ⟨g, i * 3, none⟩ = some (.int .i64 n) ∧ w.cell? ⟨g, i * 3 + 2, none⟩ = some c ∧ TM B w c
def TSs (B : Nat) (w : World) (cs : List Value) : Prop := ∃ n s d, cs = [.int .i64 n, s, d] ∧ TV B w d
def TF (B : Nat) (w : World) (d : Value) : Prop := d = .slice none 0 0 ∨ ∃ g l, d = .slice (some ⟨g, 0, none⟩) l l ∧ l ≤ 1099511627776 ∧ B ≤ g ∧ typ w g = some 27 ∧ ∀ i, i < l → ∃ n c, w.cell? ⟨g, i * 3, none⟩ = some (.int .i64 n) ∧ w.cell? ⟨g, i * 3 + 2, none⟩ = some c ∧ TV B w c
theorem TM.keep {B B' : Nat} {w w' : World} {c : Value} (h : TM B w c) (hB : B' ≤ B) (k : KeepsT B w w') : TM B' w' c := by
  rcases h with h | ⟨g, l, e, hl, hg, ht, hc⟩
  · exact .inl h
  · refine .inr ⟨g, l, e, hl, by omega, k.2 _ _ hg ht, fun i hi => ?_⟩
    obtain ⟨u, hu⟩ := Option.isSome_iff_exists.1 (hc i hi)
    rw [k.1 ⟨g, i, none⟩ u hg hu]; rfl
theorem TVv.keep {B B' : Nat} {w w' : World} {cs : List Value} (h : TVv B w cs) (hB : B' ≤ B) (k : KeepsT B w w') : TVv B' w' cs := by
  obtain ⟨n, s, c, e, h⟩ := h; exact ⟨n, s, c, e, h.keep hB k⟩
theorem TV.keep {B B' : Nat} {w w' : World} {c : Value} (h : TV B w c) (hB : B' ≤ B) (k : KeepsT B w w') : TV B' w' c := by
  rcases h with h | ⟨g, l, e, hl, hg, ht, hc⟩
  · exact .inl h
  · refine .inr ⟨g, l, e, hl, by omega, k.2 _ _ hg ht, fun i hi => ?_⟩
    obtain ⟨n, c, h1, h2, h3⟩ := hc i hi
    exact ⟨n, c, k.1 ⟨g, i * 3, none⟩ _ hg h1, k.1 ⟨g, i * 3 + 2, none⟩ _ hg h2, h3.keep hB k⟩
theorem TSs.keep {B B' : Nat} {w w' : World} {cs : List Value} (h : TSs B w cs) (hB : B' ≤ B) (k : KeepsT B w w') : TSs B' w' cs := by
  obtain ⟨n, s, c, e, h⟩ := h; exact ⟨n, s, c, e, h.keep hB k⟩
theorem TF.keep {B B' : Nat} {w w' : World} {c : Value} (h : TF B w c) (hB : B' ≤ B) (k : KeepsT B w w') : TF B' w' c := by
  rcases h with h | ⟨g, l, e, hl, hg, ht, hc⟩
  · exact .inl h
  · refine .inr ⟨g, l, e, hl, by omega, k.2 _ _ hg ht, fun i hi => ?_⟩
    obtain ⟨n, c, h1, h2, h3⟩ := hc i hi
    exact ⟨n, c, k.1 ⟨g, i * 3, none⟩ _ hg h1, k.1 ⟨g, i * 3 + 2, none⟩ _ hg h2, h3.keep hB k⟩
theorem owns_typ {w : World} {B n cap g size : Nat} {e : TypeId} {ys : List Value} (h : w.ownsRow B e size (.slice (some ⟨g, 0, none⟩) n cap) n ys) : typ w g = some e := by
  rcases h.2 with ⟨h1, -⟩ | ⟨g', c, cu, h1, h2, h3, -⟩
  · cases h1
  · cases h1; exact typ_of h3
theorem tm_of_made {B B' : Nat} {w : World} {R : Nat → List Value → Msg → Prop} {v : Value} {xs : List Msg} (h : Made 24 1 B w R v xs) (hB : B' ≤ B) (hl : xs.length ≤ 1099511627776) : TM B' w v := by
  rcases h with ⟨rfl, rfl⟩ | ⟨g, ys, rfl, ho, hp⟩
  · exact .inl rfl
  · have hg := ho.lt g rfl
    refine .inr ⟨g, _, rfl, hl, by omega, owns_typ ho, fun i hi => ?_⟩
    rw [ho.cellAt i (by omega), Option.isSome_iff_ne_none, ne_eq, List.getElem?_eq_none_iff, ho.1]
    omega
theorem made_cells {α : Type} {e : TypeId} {B g : Nat} {w : World} {R : Nat → List Value → α → Prop} {xs : List α} {ys : List Value} (ho : w.ownsRow B e 3 (.slice (some ⟨g, 0, none⟩) xs.length xs.length) xs.length ys) (hp : Part 3 (R (g + 1)) ys xs xs.length) (i : Nat) (hi : i < xs.length) :
    ∃ cs, (∀ j u, cs[j]? = some u → j < 3 → w.cell? ⟨g, i * 3 + j, none⟩ = some u) ∧ R (g + 1) cs xs[i] := by
  obtain ⟨cs, h1, h2, h3⟩ := hp i hi hi
  refine ⟨cs, fun j u hu hj => ?_, h3⟩
  have hm : (i + 1) * 3 ≤ xs.length * 3 := Nat.mul_le_mul_right _ hi
  rw [ho.cellAt _ (by omega)]
  exact h2 j u hu
theorem tv_of_made {B B' : Nat} {w : World} {R : Nat → List Value → Val → Prop} {v : Value} {xs : List Val} (h : Made 38 3 B w R v xs) (hB : B' ≤ B) (hl : xs.length ≤ 1099511627776) (hR : ∀ b cs x, B ≤ b → R b cs x → TVv b w cs) : TV B' w v := by
  rcases h with ⟨rfl, rfl⟩ | ⟨g, ys, rfl, ho, hp⟩
  · exact .inl rfl
  · have hg := ho.lt g rfl
    refine .inr ⟨g, _, rfl, hl, by omega, owns_typ ho, fun i hi => ?_⟩
    obtain ⟨cs, hc, hr⟩ := made_cells ho hp i hi
    obtain ⟨n, s, c, rfl, ht⟩ := hR _ _ _ (by omega) hr
    exact ⟨n, c, hc 0 _ rfl (by omega), hc 2 _ rfl (by omega), ht.keep (by omega) (KeepsT.refl _ _)⟩
theorem tf_of_made {B B' : Nat} {w : World} {R : Nat → List Value → Slot → Prop} {v : Value} {xs : List Slot} (h : Made 27 3 B w R v xs) (hB : B' ≤ B) (hl : xs.length ≤ 1099511627776) (hR : ∀ b cs x, B ≤ b → R b cs x → TSs b w cs) : TF B' w v := by
  rcases h with ⟨rfl, rfl⟩ | ⟨g, ys, rfl, ho, hp⟩
  · exact .inl rfl
  · have hg := ho.lt g rfl
    refine .inr ⟨g, _, rfl, hl, by omega, owns_typ ho, fun i hi => ?_⟩
    obtain ⟨cs, hc, hr⟩ := made_cells ho hp i hi
    obtain ⟨n, s, c, rfl, ht⟩ := hR _ _ _ (by omega) hr
    exact ⟨n, c, hc 0 _ rfl (by omega), hc 2 _ rfl (by omega), ht.keep (by omega) (KeepsT.refl _ _)⟩
end Go.Tr
namespace Go.Proofs.Ytogcnodgpgiacaa
open Go.RowKit Go.Tr
set_option linter.unusedVariables false
set_option linter.unusedSimpArgs false
section
attribute [local go_sem] run_store Option.isNone_none Option.isNone_some
set_option maxHeartbeats 4000000 in
theorem each_slotT {α : Type} (L B : Nat) (hL : L ≤ 1099511627776) (R : World → List Value → α → Prop) (hR : Stands R) (h3 : Three R) (R' : Nat → World → List Value → α → Prop) (hK : ∀ B B' w w' cs x, B' ≤ B → KeepsT B w w' → R' B w cs x → R' B' w' cs x) (h3' : ∀ B, Three (R' B))
    (g : Nat) (eg : ∀ args w, (callFunc g args).run Try.prog w = .ok (.enter g args) w)
    (hg : ∀ w cs x, R w cs x → Calls Try.prog g #[.agg cs.toArray] w fun e w' => ∃ ds, e = .returned (.agg ds.toArray) ∧ R' w.heap.size w' ds x ∧ Below w.heap.size w w')
    (w : World) (v : Value) (xs : List α) (hx : RowOf L B w 3 (R w) v xs) :
    Calls Try.prog 41 #[v, .func (.func g) #[] #[]] w fun e w' => ∃ v', e = .returned v' ∧ Made 27 3 w.heap.size w' (fun b => R' b w') v' xs ∧ Below w.heap.size w w' := by
  have HX := Lib.hid (fun wr (hb : Below w.heap.size w wr) => hx.imp hb fun cs x _ h => hR w wr cs x hb h)
  have HG := Lib.hid hg
  have HK := Lib.hid hK
  have H3 := Lib.hid h3'
  clear hg hK h3'
  obtain ⟨a1, cap1, rfl, q0, q1, q2, qn, -⟩ := hx
  unfold maxLen at q2
  have HN := Lib.hid qn
  clear qn
  cases a1 with
  | none =>
    have hz := HN.out rfl
    subst hz
    have hl : xs.length = 0 := by omega
    have hl2 : xs = [] := List.eq_nil_of_length_eq_zero hl
    subst hl2
    have hnil : ∀ w, Sem.run Try.prog (binOp .eql 22 (.slice none 0 0) (.slice none 0 0)) w = .ok (.bool true) w := by
      intro w
      exact run_eql_slice_nil w _ _ _ _ _ Try.underlying22
    go_enter Try.func41, Try.ntmps41
    go_wp2
    exact ⟨rfl, _, results_tmp rfl _ _ _, _, rfl, .inl ⟨rfl, rfl⟩, Below.refl _ _⟩
  | some ad =>
    have hnil : ∀ w, Sem.run Try.prog (binOp .eql 22 (.slice (some ad) xs.length cap1) (.slice none 0 0)) w = .ok (.bool false) w := by
      intro w
      exact run_eql_slice_nil w _ _ _ _ _ Try.underlying22
    go_enter Try.func41, Try.ntmps41
    obtain ⟨i3, hi3, hz3, hs3, hb3⟩ := info_parts (P := Try.prog) (e := 27) (z := .agg #[.int .i64 0, .slice none 0 0, .slice none 0 0]) (size := 3) (bytes := 56) (by kernel_rfl)
    go_wp2_with ((refine wpList_make_full _ rfl _ _ 22 rfl w.heap.size 27 i3 _ 3 Try.underlying22 hi3 hz3 hs3 .i64 .i64 _ _ xs.length (by simp [go_sem]) (by simp [go_sem]) rfl rfl (by rw [hb3]; omega) (by unfold maxLen; omega) (Nat.le_refl _) ?_; intro w1 ho1 hg1))
    have h1g := ho1.lt _ rfl
    have h1s := hg1.size
    have b1 : Below w.heap.size w w1 := (Below.refl _ _).grown hg1 (Nat.le_refl _) (by simp)
    have HO := Lib.hid ho1
    have HB := Lib.hid b1
    clear ho1 hg1 b1
    go_loopw [14] (fun i wr => ∃ (k : Nat) (ys : List Value), k ≤ xs.length ∧ i = .int .i64 k ∧ Below w.heap.size w wr ∧ w.heap.size < wr.heap.size ∧ Hid (wr.ownsRow w.heap.size 27 3 (.slice (some ⟨w.heap.size, 0, none⟩) xs.length xs.length) xs.length ys) ∧ Hid (Part 3 (R' (w.heap.size + 1) wr) ys xs k)) (fun i _ => xs.length - (intOf i).toNat)
    case atStart => exact ⟨0, _, by omega, rfl, HB.out, h1g.2, HO.out, Part.zero _ _ _ _⟩
    case round =>
      obtain ⟨k, ys, hk, rfl, hb, hsz, hown, hpart⟩ := hrel
      by_cases hlt : k < xs.length
      · obtain ⟨bx, ox, c0, c1, c2, e1, -, m0, m1, m2, n0, n1, n2, rx⟩ := (HX.out wr hb).get3 h3 k hlt
        cases e1
        have HC := Lib.hid (fun w' (hb' : Below wr.heap.size wr w') => HG.out w' _ _ (hR _ _ _ _ hb' rx))
        clear rx
        have bl := block_lt_of_cell m0
        have HS := Lib.hid (fun w' ds (b' : Below wr.heap.size wr w') (rd : R' wr.heap.size w' ds xs[k]) => (show ∃ d0 d1 d2, ds = [d0, d1, d2] ∧ d0.oneCell' = true ∧ d1.oneCell' = true ∧ d2.oneCell' = true ∧ w'.there w.heap.size (k * 3) 3 ∧
            (w'.setCells w.heap.size (k * 3) [d0, d1, d2]).ownsRow w.heap.size 27 3 (.slice (some ⟨w.heap.size, 0, none⟩) xs.length xs.length) xs.length (((ys.set (k * 3) d0).set (k * 3 + 1) d1).set (k * 3 + 2) d2) ∧
            Part 3 (R' (w.heap.size + 1) (w'.setCells w.heap.size (k * 3) [d0, d1, d2])) (((ys.set (k * 3) d0).set (k * 3 + 1) d1).set (k * 3 + 2) d2) xs (k + 1) ∧
            Below w.heap.size w (w'.setCells w.heap.size (k * 3) [d0, d1, d2]) ∧ w.heap.size < (w'.setCells w.heap.size (k * 3) [d0, d1, d2]).heap.size by
          obtain ⟨d0, d1, d2, rfl, o0, o1, o2⟩ := H3.out _ _ _ _ rd
          have ho := owns_below hown.out b'
          have hs := owns_stored3 ho (k * 3) d0 d1 d2
          have kp : KeepsT (w.heap.size + 1) w' (w'.setCells w.heap.size (k * 3) [d0, d1, d2]) := .grown hs.2 (by simp)
          refine ⟨d0, d1, d2, rfl, o0, o1, o2, owns_there ho _ _ (by omega), hs.1, ?_, (hb.nx b').grown hs.2 (by have := b'.size; omega) (by simp), by have := b'.size; have := hs.2.size; omega⟩
          refine Part.next3 ?_ hlt ho.1 _ _ _ (HK.out _ _ _ _ _ _ (by omega) (kp.mono (by omega)) rd)
          exact hpart.out.imp fun cs x _ h => HK.out _ _ _ _ _ _ (Nat.le_refl _) kp (HK.out _ _ _ _ _ _ (Nat.le_refl _) (.of_below b') h)))
        clear hown hpart
        go_wp2
        refine (HC.out _ (Below.refl _ _)).mono ?_; rintro e w' ⟨ds, rfl, rd, b'⟩
        obtain ⟨d0, d1, d2, rfl, o0, o1, o2, hth, h5, h6, h7, h8⟩ := HS.out w' ds b' rd
        have H5 := Lib.hid h5
        have H6 := Lib.hid h6
        have H7 := Lib.hid h7
        clear HS HC rd b' h5 h6 h7
        have hz : w.heap.size < w'.heap.size := by
          have := hth 0 (by omega)
          obtain ⟨u, hu⟩ := Option.isSome_iff_exists.1 this.1
          exact block_lt_of_cell hu
        go_wp2_with (refine wpList_store_mid rfl _ _ _ rfl w.heap.size (k * 3) #[d0, d1, d2] (by simp [go_sem]) (by simp [go_sem]) hth (by kernel_rfl) (by simp [o0, o1, o2]) ?_)
        refine ⟨⟨k + 1, _, by omega, rfl, H7.out, h8, H5.out, H6.out⟩, ?_⟩
        simp only [intOf, Int.toNat_natCast]
        omega
      · have hkl : k = xs.length := by omega
        subst hkl
        go_wp2
        exact ⟨rfl, .slice (some ⟨w.heap.size, 0, none⟩) xs.length xs.length, results_tmp (t := 4) rfl _ _ _, _, rfl, .inr ⟨_, _, rfl, hown.out, hpart.out⟩, hb⟩
set_option maxHeartbeats 4000000 in
theorem each_valT {α : Type} (L B : Nat) (hL : L ≤ 1099511627776) (R : World → List Value → α → Prop) (hR : Stands R) (h3 : Three R) (R' : Nat → World → List Value → α → Prop) (hK : ∀ B B' w w' cs x, B' ≤ B → KeepsT B w w' → R' B w cs x → R' B' w' cs x) (h3' : ∀ B, Three (R' B))
    (g : Nat) (eg : ∀ args w, (callFunc g args).run Try.prog w = .ok (.enter g args) w)
    (hg : ∀ w cs x, R w cs x → Calls Try.prog g #[.agg cs.toArray] w fun e w' => ∃ ds, e = .returned (.agg ds.toArray) ∧ R' w.heap.size w' ds x ∧ Below w.heap.size w w')
    (w : World) (v : Value) (xs : List α) (hx : RowOf L B w 3 (R w) v xs) :
    Calls Try.prog 48 #[v, .func (.func g) #[] #[]] w fun e w' => ∃ v', e = .returned v' ∧ Made 38 3 w.heap.size w' (fun b => R' b w') v' xs ∧ Below w.heap.size w w' := by
  have HX := Lib.hid (fun wr (hb : Below w.heap.size w wr) => hx.imp hb fun cs x _ h => hR w wr cs x hb h)
  have HG := Lib.hid hg
  have HK := Lib.hid hK
  have H3 := Lib.hid h3'
  clear hg hK h3'
  obtain ⟨a1, cap1, rfl, q0, q1, q2, qn, -⟩ := hx
  unfold maxLen at q2
  have HN := Lib.hid qn
  clear qn
  cases a1 with
  | none =>
    have hz := HN.out rfl
    subst hz
    have hl : xs.length = 0 := by omega
    have hl2 : xs = [] := List.eq_nil_of_length_eq_zero hl
    subst hl2
    have hnil : ∀ w, Sem.run Try.prog (binOp .eql 25 (.slice none 0 0) (.slice none 0 0)) w = .ok (.bool true) w := by
      intro w
      exact run_eql_slice_nil w _ _ _ _ _ Try.underlying25
    go_enter Try.func48, Try.ntmps48
    go_wp2
    exact ⟨rfl, _, results_tmp rfl _ _ _, _, rfl, .inl ⟨rfl, rfl⟩, Below.refl _ _⟩
  | some ad =>
    have hnil : ∀ w, Sem.run Try.prog (binOp .eql 25 (.slice (some ad) xs.length cap1) (.slice none 0 0)) w = .ok (.bool false) w := by
      intro w
      exact run_eql_slice_nil w _ _ _ _ _ Try.underlying25
    go_enter Try.func48, Try.ntmps48
    obtain ⟨i3, hi3, hz3, hs3, hb3⟩ := info_parts (P := Try.prog) (e := 38) (z := .agg #[.int .i64 0, .string "".toUTF8, .slice none 0 0]) (size := 3) (bytes := 48) (by kernel_rfl)
    go_wp2_with ((refine wpList_make_full _ rfl _ _ 25 rfl w.heap.size 38 i3 _ 3 Try.underlying25 hi3 hz3 hs3 .i64 .i64 _ _ xs.length (by simp [go_sem]) (by simp [go_sem]) rfl rfl (by rw [hb3]; omega) (by unfold maxLen; omega) (Nat.le_refl _) ?_; intro w1 ho1 hg1))
    have h1g := ho1.lt _ rfl
    have h1s := hg1.size
    have b1 : Below w.heap.size w w1 := (Below.refl _ _).grown hg1 (Nat.le_refl _) (by simp)
    have HO := Lib.hid ho1
    have HB := Lib.hid b1
    clear ho1 hg1 b1
    go_loopw [14] (fun i wr => ∃ (k : Nat) (ys : List Value), k ≤ xs.length ∧ i = .int .i64 k ∧ Below w.heap.size w wr ∧ w.heap.size < wr.heap.size ∧ Hid (wr.ownsRow w.heap.size 38 3 (.slice (some ⟨w.heap.size, 0, none⟩) xs.length xs.length) xs.length ys) ∧ Hid (Part 3 (R' (w.heap.size + 1) wr) ys xs k)) (fun i _ => xs.length - (intOf i).toNat)
    case atStart => exact ⟨0, _, by omega, rfl, HB.out, h1g.2, HO.out, Part.zero _ _ _ _⟩
    case round =>
      obtain ⟨k, ys, hk, rfl, hb, hsz, hown, hpart⟩ := hrel
      by_cases hlt : k < xs.length
      · obtain ⟨bx, ox, c0, c1, c2, e1, -, m0, m1, m2, n0, n1, n2, rx⟩ := (HX.out wr hb).get3 h3 k hlt
        cases e1
        have HC := Lib.hid (fun w' (hb' : Below wr.heap.size wr w') => HG.out w' _ _ (hR _ _ _ _ hb' rx))
        clear rx
        have bl := block_lt_of_cell m0
        have HS := Lib.hid (fun w' ds (b' : Below wr.heap.size wr w') (rd : R' wr.heap.size w' ds xs[k]) => (show ∃ d0 d1 d2, ds = [d0, d1, d2] ∧ d0.oneCell' = true ∧ d1.oneCell' = true ∧ d2.oneCell' = true ∧ w'.there w.heap.size (k * 3) 3 ∧
            (w'.setCells w.heap.size (k * 3) [d0, d1, d2]).ownsRow w.heap.size 38 3 (.slice (some ⟨w.heap.size, 0, none⟩) xs.length xs.length) xs.length (((ys.set (k * 3) d0).set (k * 3 + 1) d1).set (k * 3 + 2) d2) ∧
            Part 3 (R' (w.heap.size + 1) (w'.setCells w.heap.size (k * 3) [d0, d1, d2])) (((ys.set (k * 3) d0).set (k * 3 + 1) d1).set (k * 3 + 2) d2) xs (k + 1) ∧
            Below w.heap.size w (w'.setCells w.heap.size (k * 3) [d0, d1, d2]) ∧ w.heap.size < (w'.setCells w.heap.size (k * 3) [d0, d1, d2]).heap.size by
          obtain ⟨d0, d1, d2, rfl, o0, o1, o2⟩ := H3.out _ _ _ _ rd
          have ho := owns_below hown.out b'
          have hs := owns_stored3 ho (k * 3) d0 d1 d2
          have kp : KeepsT (w.heap.size + 1) w' (w'.setCells w.heap.size (k * 3) [d0, d1, d2]) := .grown hs.2 (by simp)
          refine ⟨d0, d1, d2, rfl, o0, o1, o2, owns_there ho _ _ (by omega), hs.1, ?_, (hb.nx b').grown hs.2 (by have := b'.size; omega) (by simp), by have := b'.size; have := hs.2.size; omega⟩
          refine Part.next3 ?_ hlt ho.1 _ _ _ (HK.out _ _ _ _ _ _ (by omega) (kp.mono (by omega)) rd)
          exact hpart.out.imp fun cs x _ h => HK.out _ _ _ _ _ _ (Nat.le_refl _) kp (HK.out _ _ _ _ _ _ (Nat.le_refl _) (.of_below b') h)))
        clear hown hpart
        go_wp2
        refine (HC.out _ (Below.refl _ _)).mono ?_; rintro e w' ⟨ds, rfl, rd, b'⟩
        obtain ⟨d0, d1, d2, rfl, o0, o1, o2, hth, h5, h6, h7, h8⟩ := HS.out w' ds b' rd
        have H5 := Lib.hid h5
        have H6 := Lib.hid h6
        have H7 := Lib.hid h7
        clear HS HC rd b' h5 h6 h7
        have hz : w.heap.size < w'.heap.size := by
          have := hth 0 (by omega)
          obtain ⟨u, hu⟩ := Option.isSome_iff_exists.1 this.1
          exact block_lt_of_cell hu
        go_wp2_with (refine wpList_store_mid rfl _ _ _ rfl w.heap.size (k * 3) #[d0, d1, d2] (by simp [go_sem]) (by simp [go_sem]) hth (by kernel_rfl) (by simp [o0, o1, o2]) ?_)
        refine ⟨⟨k + 1, _, by omega, rfl, H7.out, h8, H5.out, H6.out⟩, ?_⟩
        simp only [intOf, Int.toNat_natCast]
        omega
      · have hkl : k = xs.length := by omega
        subst hkl
        go_wp2
        exact ⟨rfl, .slice (some ⟨w.heap.size, 0, none⟩) xs.length xs.length, results_tmp (t := 4) rfl _ _ _, _, rfl, .inr ⟨_, _, rfl, hown.out, hpart.out⟩, hb⟩
end
section
theorem val_ownT (L B n : Nat) (hL : L ≤ 1099511627776)
    (hm : ∀ w cs x, RMsg L B w n cs x → Calls Try.prog 17 #[.agg cs.toArray] w fun e w' => ∃ ds, e = .returned (.agg ds.toArray) ∧ RMsg L w.heap.size w' n ds x ∧ Below w.heap.size w w')
    (w : World) (cs : List Value) (x : Val) (hx : RVal L B w (RMsg L B w n) cs x) :
    Calls Try.prog 49 #[.agg cs.toArray] w fun e w' => ∃ ds, e = .returned (.agg ds.toArray) ∧ (RVal L w.heap.size w' (RMsg L w.heap.size w' n) ds x ∧ TVv w.heap.size w' ds) ∧ Below w.heap.size w w' := by
  obtain ⟨c, rfl, h1, h2, h3, h4⟩ := hx
  have HM := Lib.hid fun w' (hb : Below w.heap.size w w') => each_msg L B hL (fun w => RMsg L B w n) (rmsg_stands L B n) (rmsg_one L B n) (fun B w => RMsg L B w n) (rmsg_keepB L n) (fun B => rmsg_one L B n) 17 (enters_of Try.func17 (by kernel_rfl) rfl) hm w' c x.m (h4.imp hb fun _ _ _ h => RMsg.below hb n h)
  have hlen := h4.len
  obtain ⟨a1, cap1, rfl, -⟩ := h4
  clear hm
  go_enter Try.func49, Try.ntmps49
  go_wp2_with (
    go_at_call 55
    refine (HM.out _ (al2 _ _ _)).mono ?_; rintro e w' ⟨v', rfl, hv, b'⟩
    have hr := hv.row (L := L) (B' := w.heap.size + 2) (R' := RMsg L (w.heap.size + 2) w' n) hlen (by unfold maxLen; omega) (by simp) (Keeps.refl _ _) (fun g cs x hg _ h => RMsg.keep (by simp at hg; omega) (Keeps.refl _ _) n n (Nat.le_refl _) h)
    have HT := Lib.hid (tm_of_made (B' := w.heap.size + 2) hv (by simp) (by omega))
    have HR := Lib.hid hr
    obtain ⟨a2, cap2, rfl, -⟩ := hr
    have f0 : ∀ o, w'.frozen? ⟨w.heap.size, o, none⟩ = false := fun o => (b'.frozen (p := ⟨w.heap.size, o, none⟩) (by simp; omega)).trans (by simp [go_sem])
    have f1 : ∀ o, w'.frozen? ⟨w.heap.size + 1, o, none⟩ = false := fun o => (b'.frozen (p := ⟨w.heap.size + 1, o, none⟩) (by simp)).trans (by simp [go_sem])
    have m0 := (b'.cell (p := ⟨w.heap.size, 0, none⟩) (by simp; omega)).trans (show _ = some (Value.int .i64 x.n) by simp [go_sem])
    have m1 := (b'.cell (p := ⟨w.heap.size, 1, none⟩) (by simp; omega)).trans (show _ = some (Value.string x.s) by simp [go_sem])
    have m2 := (b'.cell (p := ⟨w.heap.size, 2, none⟩) (by simp; omega)).trans (show _ = some (Value.slice a1 x.m.length cap1) by simp [go_sem])
    have z0 := (b'.cell (p := ⟨w.heap.size + 1, 0, none⟩) (by simp)).trans (show _ = some (Value.int .i64 0) by simp [go_sem])
    have z1 := (b'.cell (p := ⟨w.heap.size + 1, 1, none⟩) (by simp)).trans (show _ = some (Value.string "".toUTF8) by simp [go_sem]; rfl)
    have z2 := (b'.cell (p := ⟨w.heap.size + 1, 2, none⟩) (by simp)).trans (show _ = some (Value.slice none 0 0) by simp [go_sem])
    have HB := Lib.hid b'
    clear b' hv)
  have kp : KeepsT (w.heap.size + 2) w' ((((w'.setCell ⟨w.heap.size, 2, none⟩ (Value.slice a2 x.m.length cap2)).setCell ⟨w.heap.size + 1, 0, none⟩ (Value.int IntKind.i64 x.n)).setCell ⟨w.heap.size + 1, 1, none⟩ (Value.string x.s)).setCell ⟨w.heap.size + 1, 2, none⟩ (Value.slice a2 x.m.length cap2)) :=
    ((((KeepsT.refl _ _).set (by simp) _).set (by simp) _).set (by simp) _).set (by simp) _
  have ht : w'.there (w.heap.size + 1) 0 3 := fun j hj => ⟨by match j, hj with
    | 0, _ => rw [z0]; rfl
    | 1, _ => rw [z1]; rfl
    | 2, _ => rw [z2]; rfl, f1 _⟩
  exact bodyPost_ret (v := .agg #[.int .i64 x.n, .string x.s, .slice a2 x.m.length cap2]) (results_cell_mid rfl _ _ (w.heap.size + 1) 0 [_, _, _] _ rfl (rangeAt_set3 _ _ 0 _ _ _ (there_set ht _ _)) Try.underlying38 rfl (by kernel_rfl)) rfl ⟨[_, _, _], rfl, ⟨⟨_, rfl, h1, h2, h3, HR.out.gen hlen (by omega) kp.1 fun _ _ _ h => RMsg.keep (by omega) kp.1 n n (Nat.le_refl _) h⟩, ⟨_, _, _, rfl, HT.out.keep (by omega) kp⟩⟩,
    ((((((al2 _ _ _).nx HB.out).setCell (by simp) _).setCell (by simp) _).setCell (by simp) _).setCell (by simp) _)⟩
theorem msg_ownT (L B n : Nat) (hL : L ≤ 1099511627776)
    (hs : ∀ w cs x, RSlot L B w (RMsg L B w n) cs x → Calls Try.prog 33 #[.agg cs.toArray] w fun e w' => ∃ ds, e = .returned (.agg ds.toArray) ∧ (RSlot L w.heap.size w' (RMsg L w.heap.size w' n) ds x ∧ TSs w.heap.size w' ds) ∧ Below w.heap.size w w')
    (w : World) (cs : List Value) (m : Msg) (hx : RMsg L B w (n + 1) cs m) :
    Calls Try.prog 17 #[.agg cs.toArray] w fun e w' => ∃ v', e = .returned (.agg #[v']) ∧ Made 27 3 w.heap.size w' (fun b cs x => RSlot L b w' (RMsg L b w' n) cs x ∧ TSs b w' cs) v' m.f ∧ Below w.heap.size w w' := by
  obtain ⟨c, rfl, h4⟩ := hx
  have HM := Lib.hid fun w' (hb : Below w.heap.size w w') => each_slotT L B hL (fun w => RSlot L B w (RMsg L B w n)) (rslot_stands L B n) (rslot_three L B n) (fun B w cs x => RSlot L B w (RMsg L B w n) cs x ∧ TSs B w cs) (fun B B' w w' cs x hB k h => ⟨h.1.keep hB (Nat.le_refl _) k.1, h.2.keep hB k⟩) (fun B w cs x h => rslot_three L B n w cs x h.1) 33 (enters_of Try.func33 (by kernel_rfl) rfl) hs w' c m.f (h4.imp hb fun _ _ _ h => h.below hb)
  have hlen := h4.len
  obtain ⟨a1, cap1, rfl, -⟩ := h4
  clear hs
  go_enter Try.func17, Try.ntmps17
  go_wp2_with (
    go_at_call 41
    refine (HM.out _ (al2 _ _ _)).mono ?_; rintro e w' ⟨v', rfl, hv, b'⟩
    have HV := Lib.hid hv
    have hr := hv.row (L := L) (B' := w.heap.size + 2) (R' := RSlot L (w.heap.size + 2) w' (RMsg L (w.heap.size + 2) w' n)) hlen (by unfold maxLen; omega) (by simp) (Keeps.refl _ _) (fun g cs x hg _ h => h.1.keep (by simp at hg; omega) (Nat.le_refl _) (Keeps.refl _ _))
    obtain ⟨a2, cap2, rfl, -⟩ := hr
    have f1 : ∀ o, w'.frozen? ⟨w.heap.size + 1, o, none⟩ = false := fun o => (b'.frozen (p := ⟨w.heap.size + 1, o, none⟩) (by simp)).trans (by simp [go_sem])
    have z0 := (b'.cell (p := ⟨w.heap.size + 1, 0, none⟩) (by simp)).trans (show _ = some (Value.slice none 0 0) by simp [go_sem])
    have HB := Lib.hid b'
    clear b' hv)
  exact bodyPost_ret (v := .agg #[.slice a2 m.f.length cap2]) (results_cell_mid rfl _ _ (w.heap.size + 1) 0 [_] _ rfl (World.rangeAt_setCells_same w' (w.heap.size + 1) 0 [_] fun j hj => ⟨by match j, hj with
    | 0, _ => rw [z0]; rfl, f1 _⟩) Try.underlying24 rfl (by kernel_rfl)) rfl ⟨_, rfl, ((HV.out.lower (B' := w.heap.size + 2) (by simp)).set (by simp) _ fun g cs x hg h => ⟨h.1.keep (Nat.le_refl _) (Nat.le_refl _) ((Keeps.refl _ _).set (by simp; omega) _), h.2.keep (Nat.le_refl _) ((KeepsT.refl _ _).set (by simp; omega) _)⟩).lower (by omega), ((al2 _ _ _).nx HB.out).setCell (by simp) _⟩
set_option maxHeartbeats 4000000 in
theorem slot_ownT (L B n : Nat) (hL : L ≤ 1099511627776)
    (hm : ∀ w cs x, RMsg L B w n cs x → Calls Try.prog 17 #[.agg cs.toArray] w fun e w' => ∃ ds, e = .returned (.agg ds.toArray) ∧ RMsg L w.heap.size w' n ds x ∧ Below w.heap.size w w')
    (w : World) (cs : List Value) (x : Slot) (hx : RSlot L B w (RMsg L B w n) cs x) :
    Calls Try.prog 33 #[.agg cs.toArray] w fun e w' => ∃ ds, e = .returned (.agg ds.toArray) ∧ (RSlot L w.heap.size w' (RMsg L w.heap.size w' n) ds x ∧ TSs w.heap.size w' ds) ∧ Below w.heap.size w w' := by
  obtain ⟨c, d, rfl, h1, h2, h3, h4⟩ := hx
  have hv := val_ownT L B n hL hm
  have HK := Lib.hid fun w' (hb : Below w.heap.size w w') => each_valT L B hL (fun w => RVal L B w (RMsg L B w n)) (rval_stands L B n) (rval_three L B n) (fun B w cs x => RVal L B w (RMsg L B w n) cs x ∧ TVv B w cs) (fun B B' w w' cs x hB k h => ⟨h.1.keep hB (Nat.le_refl _) k.1, h.2.keep hB k⟩) (fun B w cs x h => rval_three L B n w cs x h.1) 49 (enters_of Try.func49 (by kernel_rfl) rfl) hv w' c x.k (h3.imp hb fun _ _ _ h => h.below hb)
  have HV := Lib.hid fun w' (hb : Below w.heap.size w w') => each_valT L B hL (fun w => RVal L B w (RMsg L B w n)) (rval_stands L B n) (rval_three L B n) (fun B w cs x => RVal L B w (RMsg L B w n) cs x ∧ TVv B w cs) (fun B B' w w' cs x hB k h => ⟨h.1.keep hB (Nat.le_refl _) k.1, h.2.keep hB k⟩) (fun B w cs x h => rval_three L B n w cs x h.1) 49 (enters_of Try.func49 (by kernel_rfl) rfl) hv w' d x.v (h4.imp hb fun _ _ _ h => h.below hb)
  have hlen := h3.len
  have hlen2 := h4.len
  obtain ⟨a1, cap1, rfl, -⟩ := h3
  obtain ⟨a2, cap2, rfl, -⟩ := h4
  clear hm hv
  have H1 := Lib.hid (fun w' (hb : Below w.heap.size w w') (hz : w.heap.size + 2 ≤ w'.heap.size) => (HK.out w' hb).mono (R' := fun e w2 => ∃ a3 cap3, e = .returned (.slice a3 x.k.length cap3) ∧ RowOf L (w.heap.size + 2) w2 3 (RVal L (w.heap.size + 2) w2 (RMsg L (w.heap.size + 2) w2 n)) (.slice a3 x.k.length cap3) x.k ∧ Below w'.heap.size w' w2) (by
    rintro e w2 ⟨v', rfl, hv, b'⟩
    have hr := hv.row (L := L) (B' := w.heap.size + 2) (R' := RVal L (w.heap.size + 2) w2 (RMsg L (w.heap.size + 2) w2 n)) hlen (by unfold maxLen; omega) hz (Keeps.refl _ _) (fun g cs x hg _ h => h.1.keep (by omega) (Nat.le_refl _) (Keeps.refl _ _))
    have HR := Lib.hid hr
    obtain ⟨a3, cap3, rfl, -⟩ := hr
    exact ⟨_, _, rfl, HR.out, b'⟩))
  have H2 := Lib.hid (fun w' (hb : Below w.heap.size w w') (hz : w.heap.size + 2 ≤ w'.heap.size) => (HV.out w' hb).mono (R' := fun e w2 => ∃ a3 cap3, e = .returned (.slice a3 x.v.length cap3) ∧ RowOf L (w.heap.size + 2) w2 3 (RVal L (w.heap.size + 2) w2 (RMsg L (w.heap.size + 2) w2 n)) (.slice a3 x.v.length cap3) x.v ∧ TV (w.heap.size + 2) w2 (.slice a3 x.v.length cap3) ∧ Below w'.heap.size w' w2) (by
    rintro e w2 ⟨v', rfl, hv, b'⟩
    have hr := hv.row (L := L) (B' := w.heap.size + 2) (R' := RVal L (w.heap.size + 2) w2 (RMsg L (w.heap.size + 2) w2 n)) hlen2 (by unfold maxLen; omega) hz (Keeps.refl _ _) (fun g cs x hg _ h => h.1.keep (by omega) (Nat.le_refl _) (Keeps.refl _ _))
    have HR := Lib.hid hr
    have HT := Lib.hid (tv_of_made (B' := w.heap.size + 2) hv hz (by omega) fun b cs x hb h => h.2)
    obtain ⟨a3, cap3, rfl, -⟩ := hr
    exact ⟨_, _, rfl, HR.out, HT.out, b'⟩))
  clear HK HV
  go_enter Try.func33, Try.ntmps33
  go_upto_region 1 with fail
  go_cut [] from 3 to 10 (fun wc => Hid (Below w.heap.size w wc) ∧ ∃ a3 cap3 a4 cap4, Bx w.heap.size wc (.int .i64 x.no) (.slice a3 x.k.length cap3) (.slice a4 x.v.length cap4) ∧
    Hid (RowOf L (w.heap.size + 2) wc 3 (RVal L (w.heap.size + 2) wc (RMsg L (w.heap.size + 2) wc n)) (.slice a3 x.k.length cap3) x.k) ∧ Hid (RowOf L (w.heap.size + 2) wc 3 (RVal L (w.heap.size + 2) wc (RMsg L (w.heap.size + 2) wc n)) (.slice a4 x.v.length cap4) x.v) ∧ Hid (TV (w.heap.size + 2) wc (.slice a4 x.v.length cap4)))
  case first =>
    have BX := Lib.hid (Bx.new w (.int .i64 x.no) (.slice a1 x.k.length cap1) (.slice a2 x.v.length cap2) (.int .i64 0) (.slice none 0 0) (.slice none 0 0) 27 27)
    go_region_with (first
      | (go_at_call 48; (with_reducible refine (H1.out _ ?_ ?_).mono ?_); exact (al2 _ _ _).drew; (simp); rintro e w1 ⟨a3, cap3, rfl, r1, b1⟩;
          (have R1 := Lib.hid r1); clear r1;
          (have B1 := Lib.hid ((al2 w (.cells #[.int .i64 x.no, .slice a1 x.k.length cap1, .slice a2 x.v.length cap2] 27) (.cells #[.int .i64 0, .slice none 0 0, .slice none 0 0] 27)).drew.nx b1));
          (have BX1 := Lib.hid (BX.out.below b1)); (obtain ⟨s1, m0, m1, m2, f0, q0, q1, q2, f1⟩ := BX1.out); clear b1 BX)
      | (go_at_call 48; (with_reducible refine (H2.out w1 ?_ ?_).mono ?_); exact B1.out; exact s1; rintro e w2 ⟨a4, cap4, rfl, r2, t2, b2⟩;
          (have R2 := Lib.hid r2); (have T2 := Lib.hid t2); clear r2 t2;
          (have R1' := Lib.hid (R1.out.gen hlen (Nat.le_refl _) (.of_below b2) fun _ _ _ h => h.below b2)); clear R1; (have R1 := R1'); clear R1';
          (have B2 := Lib.hid (B1.out.nx b2));
          (have BX2 := Lib.hid (BX1.out.below b2)); clear s1 m0 m1 m2 f0 q0 q1 q2 f1 BX1; (obtain ⟨s1, m0, m1, m2, f0, q0, q1, q2, f1⟩ := BX2.out); clear b2)
      | (go_at_call 48; (with_reducible refine (H2.out _ ?_ ?_).mono ?_); exact B1.out.setCell (by simp) _; (simpa [World.setCell] using s1); rintro e w2 ⟨a4, cap4, rfl, r2, t2, b2⟩;
          (have R2 := Lib.hid r2); (have T2 := Lib.hid t2); clear r2 t2;
          (have kp := ((Keeps.refl (w.heap.size + 2) w1).set (p := ⟨w.heap.size, 1, none⟩) (by simp) (.slice a3 x.k.length cap3)).trans (.of_below b2));
          (have R1' := Lib.hid (R1.out.gen hlen (Nat.le_refl _) kp fun _ _ _ h => h.keep (Nat.le_refl _) (Nat.le_refl _) kp)); clear R1 kp; (have R1 := R1'); clear R1';
          (have B2 := Lib.hid ((B1.out.setCell (p := ⟨w.heap.size, 1, none⟩) (by simp) (.slice a3 x.k.length cap3)).nx b2));
          (have BX2 := Lib.hid ((BX1.out.set1 (.slice a3 x.k.length cap3)).below b2)); clear s1 m0 m1 m2 f0 q0 q1 q2 f1 BX1; (obtain ⟨s1, m0, m1, m2, f0, q0, q1, q2, f1⟩ := BX2.out); clear b2))
    all_goals (go_wp2_with fail; go_meet)
    all_goals (first
      | (refine ⟨(B2.out.setCell (by simp) _).setCell (by simp) _, _, _, _, _, (BX2.out.set1 _).set2 _, ?_, ?_, ?_⟩
         · have kp := ((Keeps.refl (w.heap.size + 2) w2).set (p := ⟨w.heap.size, 1, none⟩) (by simp) (.slice a3 x.k.length cap3)).set (p := ⟨w.heap.size, 2, none⟩) (by simp) (.slice a4 x.v.length cap4)
           exact R1.out.gen hlen (Nat.le_refl _) kp fun _ _ _ h => h.keep (Nat.le_refl _) (Nat.le_refl _) kp
         · have kp := ((Keeps.refl (w.heap.size + 2) w2).set (p := ⟨w.heap.size, 1, none⟩) (by simp) (.slice a3 x.k.length cap3)).set (p := ⟨w.heap.size, 2, none⟩) (by simp) (.slice a4 x.v.length cap4)
           exact R2.out.gen hlen2 (Nat.le_refl _) kp fun _ _ _ h => h.keep (Nat.le_refl _) (Nat.le_refl _) kp
         · have kp := ((KeepsT.refl (w.heap.size + 2) w2).set (p := ⟨w.heap.size, 1, none⟩) (by simp) (.slice a3 x.k.length cap3)).set (p := ⟨w.heap.size, 2, none⟩) (by simp) (.slice a4 x.v.length cap4)
           exact T2.out.keep (Nat.le_refl _) kp)
      | (refine ⟨B2.out.setCell (by simp) _, _, _, _, _, BX2.out.set2 _, ?_, ?_, ?_⟩
         · have kp := (Keeps.refl (w.heap.size + 2) w2).set (p := ⟨w.heap.size, 2, none⟩) (by simp) (.slice a4 x.v.length cap4)
           exact R1.out.gen hlen (Nat.le_refl _) kp fun _ _ _ h => h.keep (Nat.le_refl _) (Nat.le_refl _) kp
         · have kp := (Keeps.refl (w.heap.size + 2) w2).set (p := ⟨w.heap.size, 2, none⟩) (by simp) (.slice a4 x.v.length cap4)
           exact R2.out.gen hlen2 (Nat.le_refl _) kp fun _ _ _ h => h.keep (Nat.le_refl _) (Nat.le_refl _) kp
         · have kp := (KeepsT.refl (w.heap.size + 2) w2).set (p := ⟨w.heap.size, 2, none⟩) (by simp) (.slice a4 x.v.length cap4)
           exact T2.out.keep (Nat.le_refl _) kp))
  case rest =>
    obtain ⟨BC, a3, cap3, a4, cap4, bx, RK, RV, TC⟩ := hcut
    have BX := Lib.hid bx
    obtain ⟨s1, m0, m1, m2, f0, q0, q1, q2, f1⟩ := bx
    obtain ⟨x0, z0⟩ := Option.isSome_iff_exists.1 q0
    obtain ⟨x1, z1⟩ := Option.isSome_iff_exists.1 q1
    obtain ⟨x2, z2⟩ := Option.isSome_iff_exists.1 q2
    clear q0 q1 q2
    go_wp2
    have kp : KeepsT (w.heap.size + 2) wc (((wc.setCell ⟨w.heap.size + 1, 0, none⟩ (Value.int IntKind.i64 x.no)).setCell ⟨w.heap.size + 1, 1, none⟩ (Value.slice a3 x.k.length cap3)).setCell ⟨w.heap.size + 1, 2, none⟩ (Value.slice a4 x.v.length cap4)) :=
      (((KeepsT.refl _ _).set (by simp) _).set (by simp) _).set (by simp) _
    exact bodyPost_ret (v := .agg #[.int .i64 x.no, .slice a3 x.k.length cap3, .slice a4 x.v.length cap4]) (results_cell_mid rfl _ _ (w.heap.size + 1) 0 [_, _, _] _ rfl (rangeAt_set3 _ _ 0 _ _ _ BX.out.there) Try.underlying27 rfl (by kernel_rfl)) rfl
      ⟨[_, _, _], rfl, ⟨⟨_, _, rfl, h1, h2, RK.out.gen hlen (by omega) kp.1 fun _ _ _ h => h.keep (by omega) (Nat.le_refl _) kp.1, RV.out.gen hlen2 (by omega) kp.1 fun _ _ _ h => h.keep (by omega) (Nat.le_refl _) kp.1⟩, ⟨_, _, _, rfl, TC.out.keep (by omega) kp⟩⟩,
      ((BC.out.setCell (by simp) _).setCell (by simp) _).setCell (by simp) _⟩
/-- value.Own: what is its own, by the types of its blocks. -/
theorem value_ownT (L B n : Nat) (hL : L ≤ 1099511627776) (w : World) (cs : List Value) (m : Msg) (hx : RMsg L B w (n + 1) cs m) :
    Calls Try.prog 17 #[.agg cs.toArray] w fun e w' => ∃ v', e = .returned (.agg #[v']) ∧ RMsg L w.heap.size w' (n + 1) [v'] m ∧ TF w.heap.size w' v' ∧ Below w.heap.size w w' := by
  have hl : m.f.length ≤ L := by obtain ⟨c, rfl, h⟩ := hx; exact h.len
  refine (msg_ownT L B n hL (slot_ownT L B n hL (value_own L B hL n)) w cs m hx).mono ?_
  rintro e w' ⟨v', rfl, hv, b⟩
  exact ⟨v', rfl, ⟨v', rfl, hv.row hl (by unfold maxLen; omega) (Nat.le_refl _) (Keeps.refl _ _) fun g cs x hg _ h => h.1.keep (by omega) (Nat.le_refl _) (Keeps.refl _ _)⟩, tf_of_made hv (Nat.le_refl _) (by omega) (fun b cs x _ h => h.2), b⟩
end
end Go.Proofs.Ytogcnodgpgiacaa
