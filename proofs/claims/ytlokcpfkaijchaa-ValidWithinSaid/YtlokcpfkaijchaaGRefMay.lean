/- Contract of truffleref08.May: may a schema be, as the document says. -/
import Derived.Test.YtlokcpfkaijchaaPAx12
import Derived.Test.YtlokcpfkaijchaaPAx13
import Derived.Test.YtlokcpfkaijchaaPAx13
import Derived.Test.YtlokcpfkaijchaaGMsg
import Derived.Laws.Strings
import Derived.BigQuiet
import Derived.Deep.RegionHeld3
import Derived.Deep.DeepBigQuietO
namespace Go.Proofs.Ytlokcpfkaijchaa.PA
open Go.RowKit Go.Proofs.YtlokcpfkaijchaaW.PrintWords Go.Proofs.YtlokcpfkaijchaaW.PrintLast Go.Proofs.YtlokcpfkaijchaaW.PrintMore
set_option linter.unusedVariables false
set_option linter.unusedSimpArgs false
theorem bytes_toList {a b : ByteArray} (h : a.toList = b.toList) : a = b := by
  rw [Go.ByteArray.toList_eq, Go.ByteArray.toList_eq] at h
  exact ByteArray.ext (Array.toList_inj.mp h)
def Tot' {α : Type} (o : Option α) : Prop := ∃ r, o = some r
theorem Tot'.some {α : Type} (r : α) : Tot' (some r) := ⟨r, rfl⟩
theorem Tot'.ite {α : Type} {c : Prop} [Decidable c] {a b : Option α} (h1 : Tot' a) (h2 : Tot' b) : Tot' (if c then a else b) := by split; exact h1; exact h2
theorem Tot'.bind {α β : Type} {o : Option α} {f : α → Option β} (h1 : Tot' o) (h2 : ∀ r, Tot' (f r)) : Tot' (o.bind f) := by
  obtain ⟨r, rfl⟩ := h1
  exact h2 r
def fieldMayB (M : List S77) (E : List S81) (f : S38) : Bool := (truffleref08_fieldMay.f 10 M E f.f0 f.f1 f.f2 f.f3 f.f4 f.f5 f.f6).getD false
theorem refnum_total (a : Int) : Tot' (truffleref08_number.f a) := by
  unfold truffleref08_number.f
  repeat' (first | exact Tot'.some _ | apply Tot'.ite)
theorem refkey_total (a : Int) : Tot' (truffleref08_keyed.f a) := by
  unfold truffleref08_keyed.f
  repeat' (first | exact Tot'.some _ | apply Tot'.ite)
theorem fieldMay_is (M : List S77) (E : List S81) (f : S38) : truffleref08_fieldMay.f 10 M E f.f0 f.f1 f.f2 f.f3 f.f4 f.f5 f.f6 = some (fieldMayB M E f) := by
  have j3 : ∀ k x y0 y1 y2 y3 y4 y5 y6, Tot' (truffleref08_fieldMay.j3 (k + 1) x y0 y1 y2 y3 y4 y5 y6) := by
    intro k x y0 y1 y2 y3 y4 y5 y6
    rw [truffleref08_fieldMay.j3]
    repeat' (first | exact Tot'.some _ | exact refkey_total _ | apply Tot'.ite | (apply Tot'.bind; rotate_left; intro _))
  have j2 : ∀ k x y0 y1 y2 y3 y4 y5 y6, Tot' (truffleref08_fieldMay.j2 (k + 2) x y0 y1 y2 y3 y4 y5 y6) := by
    intro k x y0 y1 y2 y3 y4 y5 y6
    rw [truffleref08_fieldMay.j2]
    exact Tot'.ite (j3 _ _ _ _ _ _ _ _ _) (j3 _ _ _ _ _ _ _ _ _)
  have j1 : ∀ k x M E y0 y1 y2 y3 y4 y5 y6, Tot' (truffleref08_fieldMay.j1 (k + 3) x M E y0 y1 y2 y3 y4 y5 y6) := by
    intro k x M E y0 y1 y2 y3 y4 y5 y6
    rw [truffleref08_fieldMay.j1]
    exact Tot'.ite (j2 _ _ _ _ _ _ _ _ _) (j2 _ _ _ _ _ _ _ _ _)
  have j0 : ∀ k x M E y0 y1 y2 y3 y4 y5 y6, Tot' (truffleref08_fieldMay.j0 (k + 4) x M E y0 y1 y2 y3 y4 y5 y6) := by
    intro k x M E y0 y1 y2 y3 y4 y5 y6
    rw [truffleref08_fieldMay.j0]
    exact Tot'.ite (Tot'.some _) (Tot'.ite (j1 _ _ _ _ _ _ _ _ _ _ _) (j1 _ _ _ _ _ _ _ _ _ _ _))
  have h : Tot' (truffleref08_fieldMay.f 10 M E f.f0 f.f1 f.f2 f.f3 f.f4 f.f5 f.f6) := by
    unfold truffleref08_fieldMay.f
    refine Tot'.bind (refnum_total _) fun _ => ?_
    repeat' (first | exact j0 6 _ _ _ _ _ _ _ _ _ _ | apply Tot'.ite)
  obtain ⟨r, hr⟩ := h
  unfold fieldMayB
  rw [hr]
  rfl
open Classical in
noncomputable def hasB (l : List ByteArray) (n : Nat) (s : ByteArray) : Bool := decide (s ∈ l.take n)
open Classical in
theorem has_loop (l : List ByteArray) (n : Nat) (s : ByteArray) (hn : n ≤ l.length) (hl : l.length ≤ 1000000) : ∀ (j k i : Nat), i ≤ n → n - i < j → j ≤ k → truffleref08_has.l0 k l n s i = some (decide (s ∈ (l.take n).drop i)) := by
  intro j
  induction j with
  | zero => intro k i hi h; omega
  | succ j ih =>
    intro k i hi h hk
    obtain ⟨k, rfl⟩ : ∃ m, k = m + 1 := ⟨k - 1, by omega⟩
    rw [truffleref08_has.l0]
    by_cases c0 : (i : Int) < n
    · have hin : i < n := by omega
      have hd : (l.take n).drop i = l[i] :: (l.take n).drop (i + 1) := by
        rw [List.drop_eq_getElem_cons (by simp; omega)]
        simp
      rw [if_pos c0, if_pos (by omega), if_pos (by omega), hd]
      have e1 : rdOf ByteArray.empty l (i : Int) = l[i] := by
        unfold rdOf
        rw [Int.toNat_natCast, List.getD_eq_getElem?_getD, List.getElem?_eq_getElem (by omega), Option.getD_some]
      rw [e1, show wrap64 ((i : Int) + 1) = ((i + 1 : Nat) : Int) by rw [IntWalk.wrap64_in _ (by omega)]; omega]
      by_cases c1 : l[i].toList = s.toList
      · rw [if_pos c1]
        have e2 : l[i] = s := bytes_toList c1
        rw [decide_eq_true (by rw [e2]; simp)]
      · rw [if_neg c1, ih k (i + 1) (by omega) (by omega) (by omega)]
        have e2 : s ≠ l[i] := fun h => c1 (by rw [h])
        congr 1
        exact decide_eq_decide.2 (by simp [e2])
    · rw [if_neg c0]
      have : (l.take n).drop i = [] := by rw [List.drop_eq_nil_iff]; simp; omega
      rw [this]
      simp
open Classical in
theorem has_is (l : List ByteArray) (n : Nat) (s : ByteArray) (hn : n ≤ l.length) (hl : l.length ≤ 1000000) : truffleref08_has.f (n + 1) l n s = some (hasB l n s) := by
  unfold truffleref08_has.f hasB
  have := has_loop l n s hn hl (n + 1) (n + 1) 0 (by omega) (by omega) (by omega)
  simpa using this
def typeB (s : ByteArray) : Int × Bool := (truffleref08_Type.f 20 s).getD (0, false)
theorem type_loop (s : ByteArray) (ns : List ByteArray) (ks : List Int) (hn : ns.length ≤ 9) (hk : ks.length = ns.length) : ∀ (j k i : Nat), i ≤ 9 → 9 - i < j → j ≤ k → Tot' (truffleref08_Type.l0 k s ns ks i) := by
  intro j
  induction j with
  | zero => intro k i hi h; omega
  | succ j ih =>
    intro k i hi h hk'
    obtain ⟨k, rfl⟩ : ∃ m, k = m + 1 := ⟨k - 1, by omega⟩
    rw [truffleref08_Type.l0]
    by_cases c0 : (i : Int) < ns.length
    · rw [if_pos c0, if_pos (by omega), show wrap64 ((i : Int) + 1) = ((i + 1 : Nat) : Int) by rw [IntWalk.wrap64_in _ (by omega)]; omega]
      have := ih k (i + 1) (by omega) (by omega) (by omega)
      refine Tot'.ite (Tot'.ite this ?_) this
      rw [if_pos (by omega)]
      exact Tot'.some _
    · rw [if_neg c0]
      exact Tot'.some _
theorem type_is (s : ByteArray) : truffleref08_Type.f 20 s = some ((typeB s).1, (typeB s).2) := by
  have h : Tot' (truffleref08_Type.f 20 s) := by
    unfold truffleref08_Type.f
    exact type_loop s _ _ (by decide) (by decide) 10 20 0 (by decide) (by decide) (by decide)
  obtain ⟨r, hr⟩ := h
  unfold typeB
  rw [hr]
  rfl
/-- May the fields of a message be, as far as a place? -/
def PartM (M : List S77) (E : List S81) (l : List S38) (n : Nat) : Prop := ∀ i x, i < n → l[i]? = some x → fieldMayB M E x = true ∧ ∀ j y, j < i → l[j]? = some y → y.f0 < x.f0 ∧ y.f1 ≠ x.f1
def MsgOk (M : List S77) (E : List S81) (l : List S38) : Prop := l.length ≤ 30 ∧ PartM M E l l.length
def PartV (V : List ByteArray) (N : List Int) (n : Nat) : Prop := ∀ i s x, i < n → V[i]? = some s → N[i]? = some x → s ∉ V.take i ∧ -2147483648 ≤ x ∧ x ≤ 2147483647 ∧ ∀ j y, j < i → N[j]? = some y → y ≠ x
def EnumOk (V : List ByteArray) (N : List Int) : Prop := 1 ≤ V.length ∧ V.length ≤ 30 ∧ N.length = V.length ∧ N[0]? = some 0 ∧ PartV V N V.length
def PartN (l : List ByteArray) (n : Nat) : Prop := ∀ i s, i < n → l[i]? = some s → (typeB s).2 = false ∧ s ∉ l.take i
def RefMay (M : List S77) (E : List S81) : Prop :=
  1 ≤ M.length ∧ M.length ≤ 20 ∧ E.length ≤ 20 ∧ (∀ m ∈ M, MsgOk M E m.f1) ∧ (∀ e ∈ E, EnumOk e.f1 e.f2) ∧ PartN (M.map (·.f0) ++ E.map (·.f0)) (M.length + E.length)
theorem num_next (j : Nat) (h : j ≤ 1000000) : Value.int .i64 (wrap64 ((j : Int) + 1)) = .int .i64 ((j + 1 : Nat) : Int) := by
  rw [IntWalk.wrap64_in _ (by omega)]
  congr 1
theorem quiet_drawn {f : FuncId} {args : Array Value} {w : World} {n : Nat} {v : Value} (h : Calls Try.prog f args (w.drewN n) fun e w' => e = .returned v ∧ Drawn0 (w.drewN n) w') : Calls Try.prog f args (w.drewN n) fun e w'' => e = .returned v ∧ ∃ m, w'' = w.drewN m :=
  Calls.quiet_of (h.mono fun _ _ ⟨he, hd⟩ => ⟨he, hd.out⟩)
theorem keep10 {w w' : World} {p0 p1 p2 p3 p4 p5 p6 p7 p8 p9 : Addr} {v0 v1 v2 v3 v4 v5 v6 v7 v8 v9 : Value} (b : Below w.heap.size w w') (h : w.cell? p0 = some v0 ∧ w.cell? p1 = some v1 ∧ w.cell? p2 = some v2 ∧ w.cell? p3 = some v3 ∧ w.cell? p4 = some v4 ∧ w.cell? p5 = some v5 ∧ w.cell? p6 = some v6 ∧ w.cell? p7 = some v7 ∧ w.cell? p8 = some v8 ∧ w.cell? p9 = some v9) : w'.cell? p0 = some v0 ∧ w'.cell? p1 = some v1 ∧ w'.cell? p2 = some v2 ∧ w'.cell? p3 = some v3 ∧ w'.cell? p4 = some v4 ∧ w'.cell? p5 = some v5 ∧ w'.cell? p6 = some v6 ∧ w'.cell? p7 = some v7 ∧ w'.cell? p8 = some v8 ∧ w'.cell? p9 = some v9 := by
  obtain ⟨h0, h1, h2, h3, h4, h5, h6, h7, h8, h9⟩ := h
  exact ⟨(b.cell (World.block_lt_of_cell? w _ h0)).trans h0, (b.cell (World.block_lt_of_cell? w _ h1)).trans h1, (b.cell (World.block_lt_of_cell? w _ h2)).trans h2, (b.cell (World.block_lt_of_cell? w _ h3)).trans h3, (b.cell (World.block_lt_of_cell? w _ h4)).trans h4, (b.cell (World.block_lt_of_cell? w _ h5)).trans h5, (b.cell (World.block_lt_of_cell? w _ h6)).trans h6, (b.cell (World.block_lt_of_cell? w _ h7)).trans h7, (b.cell (World.block_lt_of_cell? w _ h8)).trans h8, (b.cell (World.block_lt_of_cell? w _ h9)).trans h9⟩
open Classical in
noncomputable def truffleref08_May.f (l0_0 : List (S77)) (l0_1 : List (S81)) : Option (Bool) := some (decide (RefMay l0_0 l0_1))
section
open Classical
set_option maxHeartbeats 8000000 in
set_option maxRecDepth 100000 in
theorem ref_may (A0 : Option Addr) (c0 : Nat) (M : List (S77)) (A1 : Option Addr) (c1 : Nat) (E : List (S81)) (r : Bool) (w : World) (hr0 : Kd.C k77 w A0 M.length M) (hc0 : M.length ≤ c0) (hr1 : Kd.C k81 w A1 E.length E) (hc1 : E.length ≤ c1) (hr : r = decide (RefMay M E)) :
    Calls Try.prog 13 #[.agg #[.slice A0 M.length c0, .slice A1 E.length c1]] w fun e w' => e = .returned (.bool r) ∧ Below w.heap.size w w' := by
  have HR0 := Lib.hid hr0
  have HR1 := Lib.hid hr1
  have HC0 := Lib.hid hc0
  have HC1 := Lib.hid hc1
  have HNO : Hid (¬ RefMay M E → r = false) := Lib.hid fun h => by rw [hr, decide_eq_false h]
  have HYES : Hid (RefMay M E → r = true) := Lib.hid fun h => by rw [hr, decide_eq_true h]
  clear hr0 hr1 hc0 hc1 hr
  go_enter Try.func13, Try.ntmps13
  by_cases g1 : M.length < 1
  · obtain rfl := HNO.out (fun h => by have := h.1; omega)
    have d1 : decide ((M.length : Int) < 1) = true := by simp; omega
    clear HYES HNO
    go_wp2_with fail
    exact ⟨rfl, _, results_tmp (t := 2) rfl _ _ _, rfl, al1 _ _⟩
  have d1 : decide ((M.length : Int) < 1) = false := by simp; omega
  by_cases g2 : 20 < M.length
  · obtain rfl := HNO.out (fun h => by have := h.2.1; omega)
    have d2 : decide ((M.length : Int) > 20) = true := by simp; omega
    clear HYES HNO
    go_wp2_with fail
    exact ⟨rfl, _, results_tmp (t := 2) rfl _ _ _, rfl, al1 _ _⟩
  have d2 : decide ((M.length : Int) > 20) = false := by simp; omega
  by_cases g3 : 20 < E.length
  · obtain rfl := HNO.out (fun h => by have := h.2.2.1; omega)
    have d3 : decide ((E.length : Int) > 20) = true := by simp; omega
    clear HYES HNO
    go_wp2_with fail
    exact ⟨rfl, _, results_tmp (t := 2) rfl _ _ _, rfl, al1 _ _⟩
  have d3 : decide ((E.length : Int) > 20) = false := by simp; omega
  go_wp2_with fail
  clear d1 d2 d3
  go_loopw [3, 4] (fun v3 v4 wr => ∃ (k : Nat), k ≤ M.length ∧ v4 = .int .i64 k ∧ Aside0 (∀ m ∈ M.take k, MsgOk M E m.f1) ∧ Aside0 (Kd.string.R 9 wr w.heap.size (fun _ => True) v3 ((M.take k).map (·.f0))) ∧ Aside0 (wr.heap[w.heap.size]? = some (.cells #[.slice A0 M.length c0, .slice A1 E.length c1] 25 (0, 0))) ∧ Aside0 (Below w.heap.size w wr)) (fun _ v4 _ => M.length - (intOf v4).toNat)
  case atStart => exact ⟨0, Nat.zero_le _, rfl, ⟨by simp⟩, ⟨by rw [List.take_zero]; exact Kd.R_nil _ _ _ _ _⟩, ⟨heap_alloc_last _ _⟩, ⟨al1 _ _⟩⟩
  case round =>
    rename World => wA
    obtain ⟨k, hk, rfl, HA, HV, BS, BB⟩ := hrel
    have q0 : wA.cell? ⟨w.heap.size, 0, none⟩ = some (.slice A0 M.length c0) := (blk_cell BS.out 0).trans rfl
    have q1 : wA.cell? ⟨w.heap.size, 1, none⟩ = some (.slice A1 E.length c1) := (blk_cell BS.out 1).trans rfl
    have lt0 := blk_lt BS.out
    by_cases hlt : k < M.length
    · obtain ⟨ad, Am, cm, hA0, m0w, m1w, hl1', hC1⟩ := at_T77 HR0.out k (by omega) (by omega)
      have eg' : rd_T77 M (k : Int) = M[k] := by simp [rd_T77, hlt]
      rw [eg'] at m0w m1w hl1' hC1
      simp only [Int.toNat_natCast] at m0w m1w
      have m0 := (BB.out.cell (World.block_lt_of_cell? w _ m0w)).trans m0w
      have m1 := (BB.out.cell (World.block_lt_of_cell? w _ m1w)).trans m1w
      rw [hA0] at q0
      clear m0w m1w
      have HT := Aside0.mk (List.take_succ_eq_append_getElem hlt)
      have HMEM := Aside0.mk (show M[k] ∈ M from List.getElem_mem hlt)
      have HCm := Aside0.mk hC1
      have HLm := Aside0.mk hl1'
      have HKL := Aside0.mk (show ((M.take k).map (·.f0)).length ≤ 20 by simp; omega)
      have HAD := Aside0.mk hA0
      clear eg' hC1 hl1' hA0
      generalize M[k] = m at *
      obtain ⟨nm, fs⟩ := m
      simp only at *
      have BM0 := Aside0.mk (heap_alloc_last wA (.cells #[.string nm, .slice Am fs.length cm] 77))
      by_cases h30 : 30 < fs.length
      · obtain rfl := HNO.out (fun h => by have := (h.2.2.2.1 _ HMEM.out).1; simp only at this; omega)
        have d30 : decide ((fs.length : Int) > 30) = true := by simp; omega
        clear HYES HNO
        go_wp2_with (first | (with_reducible refine wpList_store_new rfl (.tmp 5) (.tmp 43) rfl rfl rfl (by kernel_rfl) (by simp) (by simp [Value.oneCell']) ?_) | (at_builtin; refine Kd.R_append Kd.string (w0 := w) w.heap.size rfl (.tmp 44) (.tmp 47) 78 9 (.string ⟨#[]⟩) 16 rfl Try.underlying78 info_string rfl (by decide) (by decide) u3 _ _ [.string _] (fun _ => True) (fun _ => False) rfl (by first | rfl | (go_simp; done)) rfl (fun _ hk => hk.elim) (fun _ _ => trivial) (Kd.R_below HV.out (al1 _ _)) (BB.out.nx (al1 _ _)) (BB.out.nx (al1 _ _)).size (by have := HKL.out; omega) ?_; intro v1 w3 HV3 BB3 hg3 _; have HV4 := Aside0.mk HV3; have BB4 := Aside0.mk BB3; have BS3 := Aside0.mk ((hg3.block _ (Nat.lt_of_lt_of_le (blk_lt BS.out) (al1 _ _).size) (Kd.R_ne HV.out BS.out (by decide))).trans (blk_below BS.out (al1 _ _))); have BM3 := Aside0.mk ((hg3.block _ (by simp) (Kd.R_ne (Kd.R_below HV.out (al1 _ _)) BM0.out (by decide))).trans BM0.out); have f1 : w3.cell? ⟨wA.heap.size, 1, none⟩ = some (.slice Am fs.length cm) := (blk_cell BM3.out 1).trans rfl; have lt3 := blk_lt BM3.out; clear HV3 BB3 hg3))
        exact ⟨rfl, _, results_tmp (t := 2) rfl _ _ _, rfl, BB4.out⟩
      have d30 : decide ((fs.length : Int) > 30) = false := by simp; omega
      go_wp2_with (first | (with_reducible refine wpList_store_new rfl (.tmp 5) (.tmp 43) rfl rfl rfl (by kernel_rfl) (by simp) (by simp [Value.oneCell']) ?_) | (at_builtin; refine Kd.R_append Kd.string (w0 := w) w.heap.size rfl (.tmp 44) (.tmp 47) 78 9 (.string ⟨#[]⟩) 16 rfl Try.underlying78 info_string rfl (by decide) (by decide) u3 _ _ [.string _] (fun _ => True) (fun _ => False) rfl (by first | rfl | (go_simp; done)) rfl (fun _ hk => hk.elim) (fun _ _ => trivial) (Kd.R_below HV.out (al1 _ _)) (BB.out.nx (al1 _ _)) (BB.out.nx (al1 _ _)).size (by have := HKL.out; omega) ?_; intro v1 w3 HV3 BB3 hg3 _; have HV4 := Aside0.mk HV3; have BB4 := Aside0.mk BB3; have BS3 := Aside0.mk ((hg3.block _ (Nat.lt_of_lt_of_le (blk_lt BS.out) (al1 _ _).size) (Kd.R_ne HV.out BS.out (by decide))).trans (blk_below BS.out (al1 _ _))); have BM3 := Aside0.mk ((hg3.block _ (by simp) (Kd.R_ne (Kd.R_below HV.out (al1 _ _)) BM0.out (by decide))).trans BM0.out); have f1 : w3.cell? ⟨wA.heap.size, 1, none⟩ = some (.slice Am fs.length cm) := (blk_cell BM3.out 1).trans rfl; have lt3 := blk_lt BM3.out; clear HV3 BB3 hg3))
      have HQ0 := Aside0.mk q0
      have HV5 := Aside0.mk (show Kd.string.R 9 w3 w.heap.size (fun _ => True) v1 ((M.take (k + 1)).map (·.f0)) by rw [HT.out, List.map_append]; exact HV4.out)
      have HL30 := Aside0.mk (show fs.length ≤ 30 by omega)
      clear d30 h30 BM0 HKL HLm m0 m1 q0 q1 lt0 BS BB HV HV4
      go_loopw [6] (fun v6 wq => ∃ (i : Nat), i ≤ fs.length ∧ v6 = .int .i64 i ∧ Aside0 (PartM M E fs i) ∧ Aside0 (Below w3.heap.size w3 wq)) (fun v6 _ => fs.length - (intOf v6).toNat)
      case atStart => exact ⟨0, Nat.zero_le _, rfl, ⟨fun i x h => by omega⟩, ⟨Below.refl _ _⟩⟩
      case round =>
        rename World => wq
        clear f1 lt3
        obtain ⟨i, hi, rfl, HP, BQ⟩ := hrel
        have BSq := Aside0.mk (blk_below BS3.out BQ.out)
        have BMq := Aside0.mk (blk_below BM3.out BQ.out)
        have BWq := Aside0.mk (BB4.out.nx BQ.out)
        have f0 : wq.cell? ⟨wA.heap.size, 0, none⟩ = some (.string nm) := (blk_cell BMq.out 0).trans rfl
        have f1 : wq.cell? ⟨wA.heap.size, 1, none⟩ = some (.slice Am fs.length cm) := (blk_cell BMq.out 1).trans rfl
        have q0 : wq.cell? ⟨w.heap.size, 0, none⟩ = some (.slice A0 M.length c0) := (blk_cell BSq.out 0).trans rfl
        have q1 : wq.cell? ⟨w.heap.size, 1, none⟩ = some (.slice A1 E.length c1) := (blk_cell BSq.out 1).trans rfl
        have lt0 := blk_lt BSq.out
        have lt1 := blk_lt BMq.out
        by_cases hlt2 : i < fs.length
        · obtain ⟨af, hAf, p0, p1, p2, p3, p4, p5, p6⟩ := at_T38 (Kd.C_below HCm.out BWq.out) i (by omega) (by omega)
          have eg' : rd_T38 fs (i : Int) = fs[i] := by simp [rd_T38, hlt2]
          rw [eg'] at p0 p1 p2 p3 p4 p5 p6
          simp only [Int.toNat_natCast] at p0 p1 p2 p3 p4 p5 p6
          have HFI := Aside0.mk (show fs[i]? = some fs[i] from List.getElem?_eq_getElem hlt2)
          clear eg'
          generalize fs[i] = f at *
          have HAF := Aside0.mk hAf
          have hi0 : (0 : Int) ≤ (i : Int) := by omega
          have hi1 : (i : Int) < (fs.length : Int) := by omega
          have HFM := Aside0.mk (fieldMay_is M E f)
          rw [hAf] at f1
          clear hAf
          have hs0 := And.intro q0 (And.intro q1 (And.intro f1 (And.intro p0 (And.intro p1 (And.intro p2 (And.intro p3 (And.intro p4 (And.intro p5 p6))))))))
          have hk9 := hs0
          go_upto_region 14 with fail
          go_cut [7] from 53 to 101 (fun v7 wc => v7 = .bool (fieldMayB M E f) ∧ Aside0 (Below wq.heap.size wq wc))
          case first =>
            go_region_held3 (fun w' => w'.cell? ⟨w.heap.size, 0, none⟩ = some (.slice A0 M.length c0) ∧ w'.cell? ⟨w.heap.size, 1, none⟩ = some (.slice A1 E.length c1) ∧ w'.cell? ⟨wA.heap.size, 1, none⟩ = some (.slice (some af) fs.length cm) ∧ w'.cell? (af.add (i * 7)) = some (.int .i64 f.f0) ∧ w'.cell? ⟨(af.add (i * 7)).block, (af.add (i * 7)).off + 1, none⟩ = some (.string f.f1) ∧ w'.cell? ⟨(af.add (i * 7)).block, (af.add (i * 7)).off + 2, none⟩ = some (.int .i64 f.f2) ∧ w'.cell? ⟨(af.add (i * 7)).block, (af.add (i * 7)).off + 3, none⟩ = some (.int .i64 f.f3) ∧ w'.cell? ⟨(af.add (i * 7)).block, (af.add (i * 7)).off + 4, none⟩ = some (.bool f.f4) ∧ w'.cell? ⟨(af.add (i * 7)).block, (af.add (i * 7)).off + 5, none⟩ = some (.int .i64 f.f5) ∧ w'.cell? ⟨(af.add (i * 7)).block, (af.add (i * 7)).off + 6, none⟩ = some (.int .i64 f.f6))
              (first | exact hk9)
              (first
                | (go_at_call 29; (with_reducible refine (truffleref08_fieldMay.calls 10 _ _ _ _ _ _ _ _ _ _ _ _ _ _ _ (Kd.C_below HR0.out (BWq.out.drew)) HC0.out (Kd.C_below HR1.out (BWq.out.drew)) HC1.out HFM.out).mono ?_); (rintro e y1 ⟨rfl, b1⟩); (have D1 := Aside0.mk ((Below.refl wq.heap.size wq).drew.nx b1)); clear b1 hk9; (have hk9 := keep10 D1.out hs0))
                | fail)
            go_wp2_with fail
            go_meet
            exact ⟨rfl, D1⟩
          case rest =>
            obtain ⟨rfl, D1⟩ := hcut
            have hk8 := keep10 D1.out hs0
            clear hs0 hk9 p0 p1 p2 p3 p4 p5 p6 q0 q1 f0 f1 lt0 lt1
            have BWc := Aside0.mk (BWq.out.nx D1.out)
            have BMc := Aside0.mk (blk_below BMq.out D1.out)
            have BSc := Aside0.mk (blk_below BSq.out D1.out)
            clear hk8
            cases hb : fieldMayB M E f with
            | false =>
              obtain rfl := HNO.out (fun h => by have := ((h.2.2.2.1 _ HMEM.out).2 i f hlt2 HFI.out).1; rw [hb] at this; cases this)
              clear HYES HNO hb
              go_wp2_with fail
              exact ⟨rfl, _, results_tmp (t := 2) rfl _ _ _, rfl, BWc.out⟩
            | true =>
              have HB := Aside0.mk hb
              clear hb
              go_wp2_with fail
              go_loopw [8] (fun v8 wt => ∃ (j : Nat), j ≤ i ∧ v8 = .int .i64 j ∧ Aside0 (∀ j' y, j' < j → fs[j']? = some y → y.f0 < f.f0 ∧ y.f1 ≠ f.f1) ∧ Aside0 (Below wc.heap.size wc wt)) (fun v8 _ => i - (intOf v8).toNat)
              case atStart => exact ⟨0, Nat.zero_le _, rfl, ⟨fun j y h => by omega⟩, ⟨Below.refl _ _⟩⟩
              case round =>
                rename World => wt
                obtain ⟨j, hj, rfl, HJ, BT⟩ := hrel
                have BWt := Aside0.mk (BWc.out.nx BT.out)
                have BMt := Aside0.mk (blk_below BMc.out BT.out)
                have f1 : wt.cell? ⟨wA.heap.size, 1, none⟩ = some (.slice Am fs.length cm) := (blk_cell BMt.out 1).trans rfl
                have lt1 := blk_lt BMt.out
                by_cases hlt3 : j < i
                · obtain ⟨ag, hAg, u0, u1, -⟩ := at_T38 (Kd.C_below HCm.out BWt.out) j (by omega) (by omega)
                  obtain ⟨ah, hAh, t0, t1, -⟩ := at_T38 (Kd.C_below HCm.out BWt.out) i (by omega) (by omega)
                  obtain rfl : af = ag := Option.some.inj (HAF.out.symm.trans hAg)
                  obtain rfl : af = ah := Option.some.inj (HAF.out.symm.trans hAh)
                  have hlj : j < fs.length := by omega
                  have eg1 : rd_T38 fs (j : Int) = fs[j] := by simp [rd_T38, hlj]
                  have eg2 : rd_T38 fs (i : Int) = f := by
                    have := HFI.out
                    simp only [rd_T38, Int.toNat_natCast, List.getD_eq_getElem?_getD, this, Option.getD_some]
                  rw [eg1] at u0 u1
                  rw [eg2] at t0 t1
                  simp only [Int.toNat_natCast] at u0 u1 t0 t1
                  have HGJ := Aside0.mk (show fs[j]? = some fs[j] from List.getElem?_eq_getElem hlj)
                  rw [hAg] at f1
                  clear eg1 eg2 hAg hAh
                  generalize fs[j] = g at *
                  have hj0 : (0 : Int) ≤ (j : Int) := by omega
                  have hj1 : (j : Int) < (fs.length : Int) := by omega
                  by_cases k1 : f.f0 ≤ g.f0
                  · obtain rfl := HNO.out (fun h => by have := (((h.2.2.2.1 _ HMEM.out).2 i f hlt2 HFI.out).2 j g hlt3 HGJ.out).1; omega)
                    have dk : decide (g.f0 ≥ f.f0) = true := by simpa using k1
                    clear HYES HNO k1
                    go_wp2_with fail
                    go_big_quiet (fail)
                    go_wp2_with fail
                    exact ⟨rfl, _, results_tmp (t := 2) rfl _ _ _, rfl, pw_below_drewN BWt.out _⟩
                  · have dk : decide (g.f0 ≥ f.f0) = false := by simpa using k1
                    by_cases k2 : g.f1.toList = f.f1.toList
                    · obtain rfl := HNO.out (fun h => (((h.2.2.2.1 _ HMEM.out).2 i f hlt2 HFI.out).2 j g hlt3 HGJ.out).2 (bytes_toList k2))
                      have dk2 : (g.f1.toList == f.f1.toList) = true := by simpa using k2
                      clear HYES HNO k1 k2
                      go_wp2_with fail
                      go_big_quiet (fail)
                      go_wp2_with fail
                      exact ⟨rfl, _, results_tmp (t := 2) rfl _ _ _, rfl, pw_below_drewN BWt.out _⟩
                    · have dk2 : (g.f1.toList == f.f1.toList) = false := by simpa using k2
                      have HJ2 := Aside0.mk (show ∀ j' y, j' < j + 1 → fs[j']? = some y → y.f0 < f.f0 ∧ y.f1 ≠ f.f1 from fun j' y h1 h2 => by
                        by_cases hjj : j' < j
                        · exact HJ.out j' y hjj h2
                        · obtain rfl : j' = j := by omega
                          obtain rfl : g = y := Option.some.inj (HGJ.out.symm.trans h2)
                          exact ⟨by omega, fun e => k2 (by rw [e])⟩)
                      clear k1 k2
                      go_wp2_with fail
                      go_big_quiet (fail)
                      go_wp2_with fail
                      have b30 := HL30.out
                      go_roundw
                      case rel => exact ⟨j + 1, by omega, by first | go_num | exact num_next _ (by omega), HJ2, ⟨pw_below_drewN BT.out _⟩⟩
                      case measure => first | (simp [intOf]; omega) | (rw [num_next _ (by omega)]; simp [intOf]; omega)
                · obtain rfl : j = i := by omega
                  have HP2 := Aside0.mk (show PartM M E fs (j + 1) from fun i' x h1 h2 => by
                    by_cases hii : i' < j
                    · exact HP.out i' x hii h2
                    · obtain rfl : i' = j := by omega
                      obtain rfl : f = x := Option.some.inj (HFI.out.symm.trans h2)
                      exact ⟨HB.out, HJ.out⟩)
                  go_wp2_with fail
                  have b30 := HL30.out
                  go_roundw
                  case rel => exact ⟨j + 1, by omega, by first | go_num | exact num_next _ (by omega), HP2, ⟨BQ.out.nx (D1.out.nx BT.out)⟩⟩
                  case measure => first | (simp [intOf]; omega) | (rw [num_next _ (by omega)]; simp [intOf]; omega)
        · obtain rfl : i = fs.length := by omega
          have HA2 := Aside0.mk (show ∀ m ∈ M.take (k + 1), MsgOk M E m.f1 from fun m hm => by
            rw [HT.out] at hm
            rcases List.mem_append.1 hm with h | h
            · exact HA.out m h
            · rw [List.mem_singleton.1 h]; exact ⟨HL30.out, HP.out⟩)
          go_wp2_with fail
          go_roundw
          case rel => exact ⟨k + 1, by omega, by first | go_num | exact num_next _ (by omega), HA2, ⟨Kd.R_below HV5.out BQ.out⟩, BSq, ⟨BB4.out.nx BQ.out⟩⟩
          case measure => first | (simp [intOf]; omega) | (rw [num_next _ (by omega)]; simp [intOf]; omega)
    · obtain rfl : k = M.length := by omega
      have HMALL := Aside0.mk (show ∀ m ∈ M, MsgOk M E m.f1 by have := HA.out; rwa [List.take_length] at this)
      have HVM := Aside0.mk (show Kd.string.R 9 wA w.heap.size (fun _ => True) u3 (M.map (·.f0)) by have := HV.out; rwa [List.take_length] at this)
      clear HA HV
      go_wp2_with fail
      go_loopw [3, 9] (fun v3 v9 wr => ∃ (k : Nat), k ≤ E.length ∧ v9 = .int .i64 k ∧ Aside0 (∀ e ∈ E.take k, EnumOk e.f1 e.f2) ∧ Aside0 (Kd.string.R 9 wr w.heap.size (fun _ => True) v3 (M.map (·.f0) ++ (E.take k).map (·.f0))) ∧ Aside0 (wr.heap[w.heap.size]? = some (.cells #[.slice A0 M.length c0, .slice A1 E.length c1] 25 (0, 0))) ∧ Aside0 (Below w.heap.size w wr)) (fun _ v9 _ => E.length - (intOf v9).toNat)
      case atStart => exact ⟨0, Nat.zero_le _, rfl, ⟨by simp⟩, ⟨by rw [List.take_zero, List.map_nil, List.append_nil]; exact HVM.out⟩, BS, BB⟩
      case round =>
        rename World => wB
        clear HVM BS BB q0 q1 lt0
        obtain ⟨k, hk, rfl, HA, HV, BS, BB⟩ := hrel
        have q0 : wB.cell? ⟨w.heap.size, 0, none⟩ = some (.slice A0 M.length c0) := (blk_cell BS.out 0).trans rfl
        have q1 : wB.cell? ⟨w.heap.size, 1, none⟩ = some (.slice A1 E.length c1) := (blk_cell BS.out 1).trans rfl
        have lt0 := blk_lt BS.out
        by_cases hlt : k < E.length
        · obtain ⟨ad, Av, cv, An, cn, hA1, m0w, m1w, m2w, hl1', hC1, hl2', hC2⟩ := at_T81 HR1.out k (by omega) (by omega)
          have eg' : rd_T81 E (k : Int) = E[k] := by simp [rd_T81, hlt]
          rw [eg'] at m0w m1w m2w hl1' hC1 hl2' hC2
          simp only [Int.toNat_natCast] at m0w m1w m2w
          have m0 := (BB.out.cell (World.block_lt_of_cell? w _ m0w)).trans m0w
          have m1 := (BB.out.cell (World.block_lt_of_cell? w _ m1w)).trans m1w
          have m2 := (BB.out.cell (World.block_lt_of_cell? w _ m2w)).trans m2w
          rw [hA1] at q1
          clear m0w m1w m2w hA1
          have HT := Aside0.mk (List.take_succ_eq_append_getElem hlt)
          have HMEM := Aside0.mk (show E[k] ∈ E from List.getElem_mem hlt)
          have HCv := Aside0.mk hC1
          have HCn := Aside0.mk hC2
          have HLv := Aside0.mk hl1'
          have HLV := Aside0.mk hl1'
          have HKL := Aside0.mk (show (M.map (·.f0) ++ (E.take k).map (·.f0)).length ≤ 40 by simp; omega)
          clear eg' hC1 hC2 hl1' hl2'
          generalize E[k] = m at *
          obtain ⟨nm, V, N⟩ := m
          simp only at *
          have BM0 := Aside0.mk (heap_alloc_last wB (.cells #[.string nm, .slice Av V.length cv, .slice An N.length cn] 81))
          by_cases e1 : V.length < 1
          · obtain rfl := HNO.out (fun h => by have := (h.2.2.2.2.1 _ HMEM.out).1; simp only at this; omega)
            have dd : decide ((V.length : Int) < 1) = true := by simp; omega
            clear HYES HNO
            go_wp2_with (first | (with_reducible refine wpList_store_new rfl (.tmp 10) (.tmp 113) rfl rfl rfl (by kernel_rfl) (by simp) (by simp [Value.oneCell']) ?_) | (at_builtin; refine Kd.R_append Kd.string (w0 := w) w.heap.size rfl (.tmp 114) (.tmp 117) 78 9 (.string ⟨#[]⟩) 16 rfl Try.underlying78 info_string rfl (by decide) (by decide) u3 _ _ [.string _] (fun _ => True) (fun _ => False) rfl (by first | rfl | (go_simp; done)) rfl (fun _ hk => hk.elim) (fun _ _ => trivial) (Kd.R_below HV.out (al1 _ _)) (BB.out.nx (al1 _ _)) (BB.out.nx (al1 _ _)).size (by have := HKL.out; omega) ?_; intro v1 w3 HV3 BB3 hg3 _; have HV4 := Aside0.mk HV3; have BB4 := Aside0.mk BB3; have BS3 := Aside0.mk ((hg3.block _ (Nat.lt_of_lt_of_le (blk_lt BS.out) (al1 _ _).size) (Kd.R_ne HV.out BS.out (by decide))).trans (blk_below BS.out (al1 _ _))); have BM3 := Aside0.mk ((hg3.block _ (by simp) (Kd.R_ne (Kd.R_below HV.out (al1 _ _)) BM0.out (by decide))).trans BM0.out); have f1 : w3.cell? ⟨wB.heap.size, 1, none⟩ = some (.slice Av V.length cv) := (blk_cell BM3.out 1).trans rfl; have f2 : w3.cell? ⟨wB.heap.size, 2, none⟩ = some (.slice An N.length cn) := (blk_cell BM3.out 2).trans rfl; have lt3 := blk_lt BM3.out; clear HV3 BB3 hg3))
            exact ⟨rfl, _, results_tmp (t := 2) rfl _ _ _, rfl, BB4.out⟩
          have dd1 : decide ((V.length : Int) < 1) = false := by simp; omega
          by_cases e2 : 30 < V.length
          · obtain rfl := HNO.out (fun h => by have := (h.2.2.2.2.1 _ HMEM.out).2.1; simp only at this; omega)
            have dd : decide ((V.length : Int) > 30) = true := by simp; omega
            clear HYES HNO
            go_wp2_with (first | (with_reducible refine wpList_store_new rfl (.tmp 10) (.tmp 113) rfl rfl rfl (by kernel_rfl) (by simp) (by simp [Value.oneCell']) ?_) | (at_builtin; refine Kd.R_append Kd.string (w0 := w) w.heap.size rfl (.tmp 114) (.tmp 117) 78 9 (.string ⟨#[]⟩) 16 rfl Try.underlying78 info_string rfl (by decide) (by decide) u3 _ _ [.string _] (fun _ => True) (fun _ => False) rfl (by first | rfl | (go_simp; done)) rfl (fun _ hk => hk.elim) (fun _ _ => trivial) (Kd.R_below HV.out (al1 _ _)) (BB.out.nx (al1 _ _)) (BB.out.nx (al1 _ _)).size (by have := HKL.out; omega) ?_; intro v1 w3 HV3 BB3 hg3 _; have HV4 := Aside0.mk HV3; have BB4 := Aside0.mk BB3; have BS3 := Aside0.mk ((hg3.block _ (Nat.lt_of_lt_of_le (blk_lt BS.out) (al1 _ _).size) (Kd.R_ne HV.out BS.out (by decide))).trans (blk_below BS.out (al1 _ _))); have BM3 := Aside0.mk ((hg3.block _ (by simp) (Kd.R_ne (Kd.R_below HV.out (al1 _ _)) BM0.out (by decide))).trans BM0.out); have f1 : w3.cell? ⟨wB.heap.size, 1, none⟩ = some (.slice Av V.length cv) := (blk_cell BM3.out 1).trans rfl; have f2 : w3.cell? ⟨wB.heap.size, 2, none⟩ = some (.slice An N.length cn) := (blk_cell BM3.out 2).trans rfl; have lt3 := blk_lt BM3.out; clear HV3 BB3 hg3))
            exact ⟨rfl, _, results_tmp (t := 2) rfl _ _ _, rfl, BB4.out⟩
          have dd2 : decide ((V.length : Int) > 30) = false := by simp; omega
          by_cases e3 : N.length = V.length
          rotate_left
          · obtain rfl := HNO.out (fun h => by have := (h.2.2.2.2.1 _ HMEM.out).2.2.1; simp only at this; exact e3 this)
            have dd : ((N.length : Int) == (V.length : Int)) = false := by simp; omega
            have ddn : ((N.length : Int) != (V.length : Int)) = true := by simp; omega
            clear HYES HNO e3
            go_wp2_with (first | (with_reducible refine wpList_store_new rfl (.tmp 10) (.tmp 113) rfl rfl rfl (by kernel_rfl) (by simp) (by simp [Value.oneCell']) ?_) | (at_builtin; refine Kd.R_append Kd.string (w0 := w) w.heap.size rfl (.tmp 114) (.tmp 117) 78 9 (.string ⟨#[]⟩) 16 rfl Try.underlying78 info_string rfl (by decide) (by decide) u3 _ _ [.string _] (fun _ => True) (fun _ => False) rfl (by first | rfl | (go_simp; done)) rfl (fun _ hk => hk.elim) (fun _ _ => trivial) (Kd.R_below HV.out (al1 _ _)) (BB.out.nx (al1 _ _)) (BB.out.nx (al1 _ _)).size (by have := HKL.out; omega) ?_; intro v1 w3 HV3 BB3 hg3 _; have HV4 := Aside0.mk HV3; have BB4 := Aside0.mk BB3; have BS3 := Aside0.mk ((hg3.block _ (Nat.lt_of_lt_of_le (blk_lt BS.out) (al1 _ _).size) (Kd.R_ne HV.out BS.out (by decide))).trans (blk_below BS.out (al1 _ _))); have BM3 := Aside0.mk ((hg3.block _ (by simp) (Kd.R_ne (Kd.R_below HV.out (al1 _ _)) BM0.out (by decide))).trans BM0.out); have f1 : w3.cell? ⟨wB.heap.size, 1, none⟩ = some (.slice Av V.length cv) := (blk_cell BM3.out 1).trans rfl; have f2 : w3.cell? ⟨wB.heap.size, 2, none⟩ = some (.slice An N.length cn) := (blk_cell BM3.out 2).trans rfl; have lt3 := blk_lt BM3.out; clear HV3 BB3 hg3))
            exact ⟨rfl, _, results_tmp (t := 2) rfl _ _ _, rfl, BB4.out⟩
          have dd3 : ((N.length : Int) == (V.length : Int)) = true := by simp; omega
          have dd3n : ((N.length : Int) != (V.length : Int)) = false := by simp; omega
          have HE3 := Aside0.mk e3
          have hV1 : 1 ≤ V.length := by omega
          have hN1 : 1 ≤ N.length := by omega
          clear e3
          obtain ⟨an, rfl, z0⟩ := Kd.at_int HCn.out 0 (by omega) (by omega)
          replace z0 : w.cell? an = some (.int .i64 (rd N 0)) := by have h := z0; simpa [Addr.add] using h
          obtain ⟨av, rfl, -⟩ := Kd.at_string HCv.out 0 (by omega) (by omega)
          have HZ0 := Aside0.mk (show N[0]? = some (rd N 0) by
            rw [List.getElem?_eq_getElem (by omega)]
            simp [rd, List.getD_eq_getElem?_getD, List.getElem?_eq_getElem (show 0 < N.length by omega)])
          by_cases e4 : rd N 0 = 0
          rotate_left
          · obtain rfl := HNO.out (fun h => by have h1 := (h.2.2.2.2.1 _ HMEM.out).2.2.2.1; simp only at h1; rw [HZ0.out] at h1; exact e4 (Option.some.inj h1))
            have dd4 : (rd N 0 == 0) = false := by simpa using e4
            have dd4n : (rd N 0 != 0) = true := by simpa using e4
            have hn0 : (0 : Int) < (N.length : Int) := by omega
            clear HYES HNO e4 HZ0
            go_wp2_with (first | (with_reducible refine wpList_store_new rfl (.tmp 10) (.tmp 113) rfl rfl rfl (by kernel_rfl) (by simp) (by simp [Value.oneCell']) ?_) | (at_builtin; refine Kd.R_append Kd.string (w0 := w) w.heap.size rfl (.tmp 114) (.tmp 117) 78 9 (.string ⟨#[]⟩) 16 rfl Try.underlying78 info_string rfl (by decide) (by decide) u3 _ _ [.string _] (fun _ => True) (fun _ => False) rfl (by first | rfl | (go_simp; done)) rfl (fun _ hk => hk.elim) (fun _ _ => trivial) (Kd.R_below HV.out (al1 _ _)) (BB.out.nx (al1 _ _)) (BB.out.nx (al1 _ _)).size (by have := HKL.out; omega) ?_; intro v1 w3 HV3 BB3 hg3 _; have HV4 := Aside0.mk HV3; have BB4 := Aside0.mk BB3; have BS3 := Aside0.mk ((hg3.block _ (Nat.lt_of_lt_of_le (blk_lt BS.out) (al1 _ _).size) (Kd.R_ne HV.out BS.out (by decide))).trans (blk_below BS.out (al1 _ _))); have BM3 := Aside0.mk ((hg3.block _ (by simp) (Kd.R_ne (Kd.R_below HV.out (al1 _ _)) BM0.out (by decide))).trans BM0.out); have f1 : w3.cell? ⟨wB.heap.size, 1, none⟩ = some (.slice (some av) V.length cv) := (blk_cell BM3.out 1).trans rfl; have f2 : w3.cell? ⟨wB.heap.size, 2, none⟩ = some (.slice (some an) N.length cn) := (blk_cell BM3.out 2).trans rfl; have lt3 := blk_lt BM3.out; have z3 := (BB3.cell (World.block_lt_of_cell? w _ z0)).trans z0; clear HV3 BB3 hg3))
            exact ⟨rfl, _, results_tmp (t := 2) rfl _ _ _, rfl, BB4.out⟩
          have dd4 : (rd N 0 == 0) = true := by simpa using e4
          have dd4n : (rd N 0 != 0) = false := by simpa using e4
          rw [e4] at HZ0
          have hn0 : (0 : Int) < (N.length : Int) := by omega
          clear e4
          go_wp2_with (first | (with_reducible refine wpList_store_new rfl (.tmp 10) (.tmp 113) rfl rfl rfl (by kernel_rfl) (by simp) (by simp [Value.oneCell']) ?_) | (at_builtin; refine Kd.R_append Kd.string (w0 := w) w.heap.size rfl (.tmp 114) (.tmp 117) 78 9 (.string ⟨#[]⟩) 16 rfl Try.underlying78 info_string rfl (by decide) (by decide) u3 _ _ [.string _] (fun _ => True) (fun _ => False) rfl (by first | rfl | (go_simp; done)) rfl (fun _ hk => hk.elim) (fun _ _ => trivial) (Kd.R_below HV.out (al1 _ _)) (BB.out.nx (al1 _ _)) (BB.out.nx (al1 _ _)).size (by have := HKL.out; omega) ?_; intro v1 w3 HV3 BB3 hg3 _; have HV4 := Aside0.mk HV3; have BB4 := Aside0.mk BB3; have BS3 := Aside0.mk ((hg3.block _ (Nat.lt_of_lt_of_le (blk_lt BS.out) (al1 _ _).size) (Kd.R_ne HV.out BS.out (by decide))).trans (blk_below BS.out (al1 _ _))); have BM3 := Aside0.mk ((hg3.block _ (by simp) (Kd.R_ne (Kd.R_below HV.out (al1 _ _)) BM0.out (by decide))).trans BM0.out); have f1 : w3.cell? ⟨wB.heap.size, 1, none⟩ = some (.slice (some av) V.length cv) := (blk_cell BM3.out 1).trans rfl; have f2 : w3.cell? ⟨wB.heap.size, 2, none⟩ = some (.slice (some an) N.length cn) := (blk_cell BM3.out 2).trans rfl; have lt3 := blk_lt BM3.out; have z3 := (BB3.cell (World.block_lt_of_cell? w _ z0)).trans z0; clear HV3 BB3 hg3))
          clear dd1 dd2 dd3 dd3n dd4 dd4n z0 z3 e1 hn0 BM0 m0 m1 m2 q0 q1 lt0
          have HV5 := Aside0.mk (show Kd.string.R 9 w3 w.heap.size (fun _ => True) v1 (M.map (·.f0) ++ (E.take (k + 1)).map (·.f0)) by rw [HT.out, List.map_append, ← List.append_assoc]; exact HV4.out)
          have HL30 := Aside0.mk (show V.length ≤ 30 by omega)
          clear HKL HLv BS BB HV HV4 e2
          go_loopw [11] (fun v11 wq => ∃ (i : Nat), i ≤ V.length ∧ v11 = .int .i64 i ∧ Aside0 (PartV V N i) ∧ Aside0 (Below w3.heap.size w3 wq)) (fun v11 _ => V.length - (intOf v11).toNat)
          case atStart => exact ⟨0, Nat.zero_le _, rfl, ⟨fun i s x h => by omega⟩, ⟨Below.refl _ _⟩⟩
          case round =>
            rename World => wq
            clear f1 f2 lt3
            obtain ⟨i, hi, rfl, HP, BQ⟩ := hrel
            have BSq := Aside0.mk (blk_below BS3.out BQ.out)
            have BMq := Aside0.mk (blk_below BM3.out BQ.out)
            have BWq := Aside0.mk (BB4.out.nx BQ.out)
            have f1 : wq.cell? ⟨wB.heap.size, 1, none⟩ = some (.slice (some av) V.length cv) := (blk_cell BMq.out 1).trans rfl
            have f2 : wq.cell? ⟨wB.heap.size, 2, none⟩ = some (.slice (some an) N.length cn) := (blk_cell BMq.out 2).trans rfl
            have lt1 := blk_lt BMq.out
            by_cases hlt2 : i < V.length
            · have hlN : i < N.length := by have := HE3.out; omega
              obtain ⟨aa, haa, p0⟩ := Kd.at_string (Kd.C_below HCv.out BWq.out) i (by omega) (by omega)
              obtain ⟨bb, hbb, p1⟩ := Kd.at_int (Kd.C_below HCn.out BWq.out) i (by omega) (by omega)
              obtain rfl : av = aa := Option.some.inj haa
              obtain rfl : an = bb := Option.some.inj hbb
              clear haa hbb
              have eg1 : rdOf ByteArray.empty V (i : Int) = V[i] := by
                unfold rdOf
                rw [Int.toNat_natCast, List.getD_eq_getElem?_getD, List.getElem?_eq_getElem hlt2, Option.getD_some]
              have eg2 : rd N (i : Int) = N[i] := by
                unfold rd
                rw [Int.toNat_natCast, List.getD_eq_getElem?_getD, List.getElem?_eq_getElem hlN, Option.getD_some]
              rw [eg1] at p0
              rw [eg2] at p1
              simp only [Int.toNat_natCast] at p0 p1
              have HSI := Aside0.mk (show V[i]? = some V[i] from List.getElem?_eq_getElem hlt2)
              have HNI := Aside0.mk (show N[i]? = some N[i] from List.getElem?_eq_getElem hlN)
              clear eg1 eg2
              generalize V[i] = s at *
              generalize N[i] = x at *
              have b30 := HL30.out
              have HH := Aside0.mk (has_is V i s (by omega) (by omega))
              have hi0 : (0 : Int) ≤ (i : Int) := by omega
              have hi1 : (i : Int) < (V.length : Int) := by omega
              have hi2 : (i : Int) < (N.length : Int) := by omega
              obtain ⟨hb, hhb⟩ : ∃ b, b = hasB V i s := ⟨_, rfl⟩
              rw [← hhb] at HH
              have HHB := Aside0.mk hhb
              clear hhb
              cases hb with
              | true =>
                obtain rfl := HNO.out (fun h => by
                  have h1 := (h.2.2.2.2.1 _ HMEM.out).2.2.2.2 i s x hlt2 HSI.out HNI.out
                  have h2 := HHB.out
                  unfold hasB at h2
                  exact h1.1 (of_decide_eq_true h2.symm))
                clear HYES HNO
                go_wp2_with fail
                go_big_quiet ((go_at_call 30; exact quiet_drawn (truffleref08_has.calls (i + 1) _ _ _ _ _ _ _ (Kd.C_drewN (Kd.C_below HCv.out BWq.out) _) HLV.out HH.out)))
                go_wp2_with fail
                exact ⟨rfl, _, results_tmp (t := 2) rfl _ _ _, rfl, pw_below_drewN BWq.out _⟩
              | false =>
                have HNS := Aside0.mk (show s ∉ V.take i from fun h => by
                  have h2 := HHB.out
                  unfold hasB at h2
                  rw [decide_eq_true h] at h2
                  cases h2)
                by_cases c1 : x < -2147483648
                · obtain rfl := HNO.out (fun h => by have h1 := ((h.2.2.2.2.1 _ HMEM.out).2.2.2.2 i s x hlt2 HSI.out HNI.out).2.1; omega)
                  have dc : decide (x < -2147483648) = true := by simpa using c1
                  clear HYES HNO c1
                  go_wp2_with fail
                  go_big_quiet ((go_at_call 30; exact quiet_drawn (truffleref08_has.calls (i + 1) _ _ _ _ _ _ _ (Kd.C_drewN (Kd.C_below HCv.out BWq.out) _) HLV.out HH.out)))
                  go_wp2_with fail
                  exact ⟨rfl, _, results_tmp (t := 2) rfl _ _ _, rfl, pw_below_drewN BWq.out _⟩
                · have dc : decide (x < -2147483648) = false := by simpa using c1
                  by_cases c2 : 2147483647 < x
                  · obtain rfl := HNO.out (fun h => by have h1 := ((h.2.2.2.2.1 _ HMEM.out).2.2.2.2 i s x hlt2 HSI.out HNI.out).2.2.1; omega)
                    have dc2 : decide (x > 2147483647) = true := by simpa using c2
                    clear HYES HNO c1 c2
                    go_wp2_with fail
                    go_big_quiet ((go_at_call 30; exact quiet_drawn (truffleref08_has.calls (i + 1) _ _ _ _ _ _ _ (Kd.C_drewN (Kd.C_below HCv.out BWq.out) _) HLV.out HH.out)))
                    go_wp2_with fail
                    exact ⟨rfl, _, results_tmp (t := 2) rfl _ _ _, rfl, pw_below_drewN BWq.out _⟩
                  · have dc2 : decide (x > 2147483647) = false := by simpa using c2
                    have HC12 := Aside0.mk (And.intro c1 c2)
                    clear c1 c2
                    go_wp2_with fail
                    go_big_quiet ((go_at_call 30; exact quiet_drawn (truffleref08_has.calls (i + 1) _ _ _ _ _ _ _ (Kd.C_drewN (Kd.C_below HCv.out BWq.out) _) HLV.out HH.out)))
                    go_wp2_with fail
                    go_loopw [12] (fun v12 wt => ∃ (j : Nat), j ≤ i ∧ v12 = .int .i64 j ∧ Aside0 (∀ j' y, j' < j → N[j']? = some y → y ≠ x) ∧ Aside0 (Below w.heap.size w wt) ∧ Aside0 (Below w3.heap.size w3 wt)) (fun v12 _ => i - (intOf v12).toNat)
                    case atStart => exact ⟨0, Nat.zero_le _, rfl, ⟨fun j y h => by omega⟩, ⟨pw_below_drewN BWq.out _⟩, ⟨pw_below_drewN BQ.out _⟩⟩
                    case round =>
                      rename World => wt
                      clear f1 f2 lt1 p0 p1 dc dc2
                      obtain ⟨j, hj, rfl, HJ, BWt, BT⟩ := hrel
                      have BMt := Aside0.mk (blk_below BM3.out BT.out)
                      have BSt := Aside0.mk (blk_below BS3.out BT.out)
                      have f2 : wt.cell? ⟨wB.heap.size, 2, none⟩ = some (.slice (some an) N.length cn) := (blk_cell BMt.out 2).trans rfl
                      have lt1 := blk_lt BMt.out
                      by_cases hlt3 : j < i
                      · have hlj : j < N.length := by omega
                        obtain ⟨aa, haa, p0⟩ := Kd.at_int (Kd.C_below HCn.out BWt.out) j (by omega) (by omega)
                        obtain ⟨bb, hbb, p1⟩ := Kd.at_int (Kd.C_below HCn.out BWt.out) i (by omega) (by omega)
                        obtain rfl : an = aa := Option.some.inj haa
                        obtain rfl : an = bb := Option.some.inj hbb
                        clear haa hbb
                        have eg1 : rd N (j : Int) = N[j] := by
                          unfold rd
                          rw [Int.toNat_natCast, List.getD_eq_getElem?_getD, List.getElem?_eq_getElem hlj, Option.getD_some]
                        have eg2 : rd N (i : Int) = x := by
                          have := HNI.out
                          unfold rd
                          rw [Int.toNat_natCast, List.getD_eq_getElem?_getD, this, Option.getD_some]
                        rw [eg1] at p0
                        rw [eg2] at p1
                        simp only [Int.toNat_natCast] at p0 p1
                        have HNJ := Aside0.mk (show N[j]? = some N[j] from List.getElem?_eq_getElem hlj)
                        clear eg1 eg2
                        generalize N[j] = y at *
                        have hj0 : (0 : Int) ≤ (j : Int) := by omega
                        have hj1 : (j : Int) < (N.length : Int) := by omega
                        by_cases k1 : y = x
                        · obtain rfl := HNO.out (fun h => ((h.2.2.2.2.1 _ HMEM.out).2.2.2.2 i s x hlt2 HSI.out HNI.out).2.2.2 j y hlt3 HNJ.out k1)
                          have dk : (y == x) = true := by simpa using k1
                          clear HYES HNO k1
                          go_wp2_with fail
                          go_big_quiet (fail)
                          go_wp2_with fail
                          exact ⟨rfl, _, results_tmp (t := 2) rfl _ _ _, rfl, pw_below_drewN BWt.out _⟩
                        · have dk : (y == x) = false := by simpa using k1
                          have HJ2 := Aside0.mk (show ∀ j' y, j' < j + 1 → N[j']? = some y → y ≠ x from fun j' z h1 h2 => by
                            by_cases hjj : j' < j
                            · exact HJ.out j' z hjj h2
                            · obtain rfl : j' = j := by omega
                              obtain rfl : y = z := Option.some.inj (HNJ.out.symm.trans h2)
                              exact k1)
                          clear k1
                          go_wp2_with fail
                          go_big_quiet (fail)
                          go_wp2_with fail
                          have b30 := HL30.out
                          go_roundw
                          case rel => exact ⟨j + 1, by omega, by first | go_num | exact num_next _ (by omega), HJ2, ⟨pw_below_drewN BWt.out _⟩, ⟨pw_below_drewN BT.out _⟩⟩
                          case measure => first | (simp [intOf]; omega) | (rw [num_next _ (by omega)]; simp [intOf]; omega)
                      · obtain rfl : j = i := by omega
                        have HP2 := Aside0.mk (show PartV V N (j + 1) from fun i' s' x' h1 h2 h3 => by
                          by_cases hii : i' < j
                          · exact HP.out i' s' x' hii h2 h3
                          · obtain rfl : i' = j := by omega
                            obtain rfl : s = s' := Option.some.inj (HSI.out.symm.trans h2)
                            obtain rfl : x = x' := Option.some.inj (HNI.out.symm.trans h3)
                            have hc := HC12.out
                            exact ⟨HNS.out, by omega, by omega, HJ.out⟩)
                        go_wp2_with fail
                        have b30 := HL30.out
                        go_roundw
                        case rel => exact ⟨j + 1, by omega, by first | go_num | exact num_next _ (by omega), HP2, ⟨BT.out⟩⟩
                        case measure => first | (simp [intOf]; omega) | (rw [num_next _ (by omega)]; simp [intOf]; omega)
            · obtain rfl : i = V.length := by omega
              have HA2 := Aside0.mk (show ∀ e ∈ E.take (k + 1), EnumOk e.f1 e.f2 from fun e he => by
                rw [HT.out] at he
                rcases List.mem_append.1 he with h | h
                · exact HA.out e h
                · rw [List.mem_singleton.1 h]; exact ⟨hV1, HL30.out, HE3.out, HZ0.out, HP.out⟩)
              go_wp2_with fail
              go_roundw
              case rel => exact ⟨k + 1, by omega, by first | go_num | exact num_next _ (by omega), HA2, ⟨Kd.R_below HV5.out BQ.out⟩, BSq, ⟨BB4.out.nx BQ.out⟩⟩
              case measure => first | (simp [intOf]; omega) | (rw [num_next _ (by omega)]; simp [intOf]; omega)
        · obtain rfl : k = E.length := by omega
          have HEALL := Aside0.mk (show ∀ e ∈ E, EnumOk e.f1 e.f2 by have := HA.out; rwa [List.take_length] at this)
          have HVM := Aside0.mk (show Kd.string.R 9 wB w.heap.size (fun _ => True) u3 (M.map (·.f0) ++ E.map (·.f0)) by have := HV.out; rwa [List.take_length] at this)
          have hns : (M.map (·.f0) ++ E.map (·.f0)).length = M.length + E.length := by simp
          clear HA HV
          have HRM := Aside0.mk (show PartN (M.map (·.f0) ++ E.map (·.f0)) (M.length + E.length) → RefMay M E from fun h => ⟨by omega, by omega, by omega, HMALL.out, HEALL.out, h⟩)
          have HRM2 := Aside0.mk (show RefMay M E → PartN (M.map (·.f0) ++ E.map (·.f0)) (M.length + E.length) from fun h => h.2.2.2.2.2)
          generalize hgn : M.map (·.f0) ++ E.map (·.f0) = ns at *
          clear hgn
          obtain ⟨Al, cl, rfl, hcl, hCl⟩ := Kd.R_reads HVM.out
          obtain ⟨al, rfl, -⟩ := Kd.at_string hCl 0 (by omega) (by omega)
          have HCL := Aside0.mk hCl
          have HLL := Aside0.mk hcl
          rw [← hns] at HRM HRM2
          have hn40 : ns.length ≤ 40 := by omega
          clear hCl hcl HVM hns
          go_wp2_with fail
          go_loopw [13] (fun v13 wt => ∃ (i : Nat), i ≤ ns.length ∧ v13 = .int .i64 i ∧ Aside0 (PartN ns i) ∧ Aside0 (Below wB.heap.size wB wt)) (fun v13 _ => ns.length - (intOf v13).toNat)
          case atStart => exact ⟨0, Nat.zero_le _, rfl, ⟨fun i s h => by omega⟩, ⟨Below.refl _ _⟩⟩
          case round =>
            rename World => wt
            clear q0 q1 lt0
            obtain ⟨i, hi, rfl, HP, BT⟩ := hrel
            have BWt := Aside0.mk (BB.out.nx BT.out)
            by_cases hlt2 : i < ns.length
            · obtain ⟨aa, haa, p0⟩ := Kd.at_string (Kd.C_below HCL.out BT.out) i (by omega) (by omega)
              obtain rfl : al = aa := Option.some.inj haa
              clear haa
              have eg1 : rdOf ByteArray.empty ns (i : Int) = ns[i] := by
                unfold rdOf
                rw [Int.toNat_natCast, List.getD_eq_getElem?_getD, List.getElem?_eq_getElem hlt2, Option.getD_some]
              rw [eg1] at p0
              simp only [Int.toNat_natCast] at p0
              have HSI := Aside0.mk (show ns[i]? = some ns[i] from List.getElem?_eq_getElem hlt2)
              clear eg1
              generalize ns[i] = s at *
              have HTY := Aside0.mk (type_is s)
              have HH := Aside0.mk (has_is ns i s (by omega) (by omega))
              have hi0 : (0 : Int) ≤ (i : Int) := by omega
              have hi1 : (i : Int) < (ns.length : Int) := by omega
              obtain ⟨n1, pb, htb⟩ : ∃ n b, typeB s = (n, b) := ⟨_, _, rfl⟩
              rw [htb] at HTY
              have HTB := Aside0.mk htb
              clear htb
              cases pb with
              | true =>
                obtain rfl := HNO.out (fun h => by
                  have h1 := (HRM2.out h i s hlt2 HSI.out).1
                  rw [HTB.out] at h1
                  cases h1)
                clear HYES HNO
                go_wp2_with (go_at_call 31; (with_reducible refine (truffleref08_Type.calls 20 s n1 true _ HTY.out).mono ?_); rintro e y1 ⟨rfl, b1⟩; have BY := Aside0.mk (BWt.out.nx b1); have p1 := (b1.cell (World.block_lt_of_cell? _ _ p0)).trans p0; clear b1 p0)
                exact ⟨rfl, _, results_tmp (t := 2) rfl _ _ _, rfl, BY.out⟩
              | false =>
                obtain ⟨hb, hhb⟩ : ∃ b, b = hasB ns i s := ⟨_, rfl⟩
                rw [← hhb] at HH
                have HHB := Aside0.mk hhb
                clear hhb
                cases hb with
                | true =>
                  obtain rfl := HNO.out (fun h => by
                    have h1 := (HRM2.out h i s hlt2 HSI.out).2
                    have h2 := HHB.out
                    unfold hasB at h2
                    exact h1 (of_decide_eq_true h2.symm))
                  clear HYES HNO
                  go_wp2_with (first | (go_at_call 31; (with_reducible refine (truffleref08_Type.calls 20 s n1 false _ HTY.out).mono ?_); rintro e y1 ⟨rfl, b1⟩; have BY := Aside0.mk (BWt.out.nx b1); have BX := Aside0.mk (BT.out.nx b1); have p1 := (b1.cell (World.block_lt_of_cell? _ _ p0)).trans p0; clear b1 p0) | (go_at_call 30; (with_reducible refine (truffleref08_has.calls (i + 1) _ _ _ _ _ _ _ (Kd.C_below HCL.out BX.out) HLL.out HH.out).mono ?_); rintro e y2 ⟨rfl, ⟨n9, rfl⟩⟩))
                  exact ⟨rfl, _, results_tmp (t := 2) rfl _ _ _, rfl, pw_below_drewN BY.out _⟩
                | false =>
                  have HNS := Aside0.mk (show s ∉ ns.take i from fun h => by
                    have h2 := HHB.out
                    unfold hasB at h2
                    rw [decide_eq_true h] at h2
                    cases h2)
                  have HP2 := Aside0.mk (show PartN ns (i + 1) from fun i' s' h1 h2 => by
                    by_cases hii : i' < i
                    · exact HP.out i' s' hii h2
                    · obtain rfl : i' = i := by omega
                      obtain rfl : s = s' := Option.some.inj (HSI.out.symm.trans h2)
                      exact ⟨by rw [HTB.out], HNS.out⟩)
                  go_wp2_with (first | (go_at_call 31; (with_reducible refine (truffleref08_Type.calls 20 s n1 false _ HTY.out).mono ?_); rintro e y1 ⟨rfl, b1⟩; have BY := Aside0.mk (BWt.out.nx b1); have BX := Aside0.mk (BT.out.nx b1); have p1 := (b1.cell (World.block_lt_of_cell? _ _ p0)).trans p0; clear b1 p0) | (go_at_call 30; (with_reducible refine (truffleref08_has.calls (i + 1) _ _ _ _ _ _ _ (Kd.C_below HCL.out BX.out) HLL.out HH.out).mono ?_); rintro e y2 ⟨rfl, ⟨n9, rfl⟩⟩))
                  go_roundw
                  case rel => exact ⟨i + 1, by omega, by first | go_num | exact num_next _ (by omega), HP2, ⟨pw_below_drewN BX.out _⟩⟩
                  case measure => first | (simp [intOf]; omega) | (rw [num_next _ (by omega)]; simp [intOf]; omega)
            · obtain rfl : i = ns.length := by omega
              obtain rfl := HYES.out (HRM.out HP.out)
              clear HYES HNO
              go_wp2_with fail
              exact ⟨rfl, _, results_tmp (t := 2) rfl _ _ _, rfl, BWt.out⟩
end
open Classical in
theorem truffleref08_May.calls (A0_0 : Option Addr) (c0_0 : Nat) (l0_0 : List (S77)) (A0_1 : Option Addr) (c0_1 : Nat) (l0_1 : List (S81)) (r : Bool) (w : World) (hr0_0 : Kd.C k77 w A0_0 l0_0.length l0_0) (hc0_0 : l0_0.length ≤ c0_0) (hr0_1 : Kd.C k81 w A0_1 l0_1.length l0_1) (hc0_1 : l0_1.length ≤ c0_1) (h : truffleref08_May.f l0_0 l0_1 = some r) :
    Calls Try.prog 13 #[.agg #[.slice A0_0 l0_0.length c0_0, .slice A0_1 l0_1.length c0_1]] w fun e w' => e = .returned (.bool r) ∧ Below w.heap.size w w' :=
  ref_may _ _ _ _ _ _ r w hr0_0 hc0_0 hr0_1 hc0_1 (Option.some.inj h).symm
end Go.Proofs.Ytlokcpfkaijchaa.PA
