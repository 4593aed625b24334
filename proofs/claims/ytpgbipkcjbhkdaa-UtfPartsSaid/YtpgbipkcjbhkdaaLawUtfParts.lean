/- The statement UtfParts: for all bytes, what is fine in each of two parts is so in both together, and First tells how far; no condition. -/
import Derived.Test.YtpgbipkcjbhkdaaRows
import Derived.WalkKit
import Derived.ProofKit
import Derived.OpenShut
import Derived.ShutString
import Derived.ChangeOld
import Derived.Below
import Derived.Test.YtpgbipkcjbhkdaaUtfRef2
namespace Go.Proofs.Ytpgbipkcjbhkdaa.utfParts
open Go.ChangeShapes Go.WideShapes Go.ChangeAt Go.RowKit
open Go.ChangeMaps (open_string shut_string)
set_option linter.unusedVariables false
set_option linter.unusedSimpArgs false

theorem own : ownKnob Try.prog.godebug = none := by kernel_rfl
theorem laidOut : laidOutB Try.prog = true := by kernel_rfl

/-- WHAT THE WALK IS TOLD OF A SLICE OF INTEGERS THAT CAME IN: it is nil; or it leads to a row of 'cap' cells, the numbers 'zs' (the first 'len' are its elements, the rest its spare room), each fitting its kind. -/
def IsRow (k : IntKind) (w : World) (a : Option Addr) (len cap : Nat) (zs : List Int) : Prop :=
  (a = none ∧ len = 0 ∧ cap = 0 ∧ zs = []) ∨
  ∃ x, a = some x ∧ len ≤ cap ∧ cap ≤ maxLen ∧ zs.length = cap ∧ (∀ i, i < zs.length → w.cell? (x.add i) = some (.int k (zs.getD i 0))) ∧ ∀ n ∈ zs, (Lit.int k n).wf = true

theorem bytes_of {w : World} {a : Option Addr} {len cap : Nat} {z : List Int} (h : IsRow .u8 w a len cap z) : Bytes w (.slice a len cap) (z.take len) ∧ (z.take len).length = len := by
  rcases h with ⟨rfl, rfl, rfl, rfl⟩ | ⟨x, rfl, hl, hm, hz, hc, hw⟩
  · exact ⟨⟨none, 0, rfl, by simp, by unfold maxLen; omega, by simp, fun _ => rfl, fun h => absurd rfl h⟩, rfl⟩
  · have hlen : (z.take len).length = len := by simp; omega
    refine ⟨⟨some x, cap, by rw [hlen], by omega, hm, fun n hn => ?_, by simp, fun hne => ?_⟩, hlen⟩
    · have := bounds_u8 (hw n (List.mem_of_mem_take hn)); exact this
    · have h0 : 0 < len := by
        rcases Nat.eq_zero_or_pos len with h | h
        · subst h; simp at hne
        · exact h
      have c0 := hc 0 (by omega)
      obtain ⟨b, off, spot⟩ := x
      have hs : spot = none := by
        cases spot with
        | none => rfl
        | some s =>
          simp only [Addr.add, if_true, World.cell?, Option.isSome_some] at c0
          split at c0 <;> simp at c0
      subst hs
      refine ⟨b, off, rfl, fun i hi => ?_⟩
      have := hc i (by omega)
      have e : (⟨b, off, none⟩ : Addr).add i = ⟨b, off + i, none⟩ := by unfold Addr.add; split <;> simp_all
      rw [e] at this
      rw [this]
      congr 2
      simp only [List.getD, List.getElem?_take]
      rw [if_pos (by omega)]
theorem fine_nat (L : List Int) (i j : Nat) (hij : i ≤ j) (hj : j ≤ L.length) : Utf.fineB L i j = decide (Utf.firstN ((L.take j).drop i) = j - i) := by
  unfold Utf.fineB
  rw [Bool.eq_iff_iff]
  simp; omega
theorem fine_zero (L : List Int) (j : Nat) (hj : j ≤ L.length) : Utf.fineB L 0 j = decide (Utf.firstN (L.take j) = j) := by
  have := fine_nat L 0 j (by omega) hj
  simpa using this
theorem parts (l l1 : List Int) : ∃ (one two whole : Bool) (n : Nat), Utf.fineB (l ++ l1) 0 l.length = one ∧ Utf.fineB (l ++ l1) l.length (l ++ l1).length = two ∧ Utf.fineB (l ++ l1) 0 (l ++ l1).length = whole ∧
    Utf.firstN (l ++ l1) = n ∧ n ≤ (l ++ l1).length ∧ Utf.fineB (l ++ l1) 0 n = true ∧ ((n : Int) == (l ++ l1).length) = whole ∧ (whole = false → Utf.fineB (l ++ l1) 0 ((n : Int) + 1) = false) ∧
    ((Utf.firstN l : Int) == l.length) = one ∧ ((one = true ∧ two = whole) ∨ one = false) := by
  refine ⟨_, _, _, _, rfl, rfl, rfl, rfl, Utf.firstN_le _, ?_, ?_, ?_, ?_, ?_⟩
  · rw [fine_zero _ _ (Utf.firstN_le _)]
    simp [Utf.firstN_take]
  · rw [fine_zero _ _ (Nat.le_refl _), List.take_length]
    rw [Bool.eq_iff_iff]
    simp only [beq_iff_eq, decide_eq_true_eq]; omega
  · intro h
    rw [fine_zero _ _ (Nat.le_refl _), List.take_length] at h
    have hlt : Utf.firstN (l ++ l1) < (l ++ l1).length := by
      have := Utf.firstN_le (l ++ l1)
      simp only [decide_eq_false_iff_not] at h
      omega
    have := fine_zero (l ++ l1) (Utf.firstN (l ++ l1) + 1) (by omega)
    rw [show ((Utf.firstN (l ++ l1) : Nat) : Int) + 1 = ((Utf.firstN (l ++ l1) + 1 : Nat) : Int) by omega, this]
    simp only [decide_eq_false_iff_not]
    exact Utf.firstN_more _ hlt
  · rw [fine_zero _ _ (by simp), List.take_left]
    rw [Bool.eq_iff_iff]
    simp only [beq_iff_eq, decide_eq_true_eq]; omega
  · rw [fine_zero _ _ (by simp), List.take_left, fine_nat _ _ _ (by simp) (Nat.le_refl _), fine_zero _ _ (Nat.le_refl _), List.take_length, List.drop_left]
    by_cases h : Utf.firstN l = l.length
    · left
      refine ⟨by simp [h], ?_⟩
      rw [Bool.eq_iff_iff]
      have := Utf.firstN_append l l1 h
      simp only [decide_eq_true_eq, List.length_append]; omega
    · right
      simp [h]

/-! ### STEP 1: THE WALK: the Go text returns true, AND WRITES NOTHING THAT WAS THERE: 'Below w.heap.size w w'' (Derived/Below.lean: '.refl', '.alloc', '.drew', '.setCell' at a new block, '.trans'). Open each 'IsRow' by 'rcases' AHEAD of 'go_enter'; part every test ahead of the walk. -/
set_option maxHeartbeats 8000000 in
set_option maxRecDepth 100000 in
theorem walk (a0 : Option Addr) (len0 cap0 : Nat) (z0 : List Int) (a1 : Option Addr) (len1 cap1 : Nat) (z1 : List Int) (w : World) (w0 : IsRow .u8 w a0 len0 cap0 z0) (w1 : IsRow .u8 w a1 len1 cap1 z1) :
    Calls Try.prog 3 #[.slice a0 len0 cap0, .slice a1 len1 cap1] w fun e w' => e = .returned (.bool true) ∧ Below w.heap.size w w' := by
  obtain ⟨hB, hlen⟩ := bytes_of w0
  obtain ⟨hB1, hlen1⟩ := bytes_of w1
  generalize z0.take len0 = l at hB hlen
  generalize z1.take len1 = l1 at hB1 hlen1
  clear w0 w1
  have h0 := Lib.hid (fun w => utf_awake w)
  by_cases c0 : len0 ≤ 3000
  · by_cases c1 : len1 ≤ 3000
    · have hm : l.length ≤ 140737488355328 := by omega
      have HB := Lib.hid hB
      have HB1 := Lib.hid hB1
      obtain ⟨one, two, whole, n, e1, e2, e3, e4, e5, e6, e7, e8, e9, hcase⟩ := parts l l1
      have hN : (l ++ l1).length ≤ 6000 := by simp; omega
      have hT : (l ++ l1).length = len0 + len1 := by simp; omega
      have H1 := Lib.hid (fun w v h => utf_fine w v (l ++ l1) 0 l.length h (by omega) (by omega) (by omega) (by omega) (by omega))
      have H2 := Lib.hid (fun w v h => utf_fine w v (l ++ l1) l.length (l ++ l1).length h (by omega) (by omega) (by omega) (by omega) (by omega))
      have H3 := Lib.hid (fun w v h => utf_fine w v (l ++ l1) 0 (l ++ l1).length h (by omega) (by omega) (by omega) (by omega) (by omega))
      have H4 := Lib.hid (fun w v h => utf_first w v (l ++ l1) h (by omega))
      have H5 := Lib.hid (fun w v h => utf_fine w v (l ++ l1) 0 n h (by omega) (by omega) (by omega) (by omega) (by omega))
      have H6 := Lib.hid (fun w v h => utf_fine w v (l ++ l1) 0 ((n : Int) + 1) h (by omega) (by omega) (by omega) (by omega) (by omega))
      have H7 := Lib.hid (fun w h => utf_first w (.slice a0 len0 cap0) l h hm)
      have hn0 := Utf.firstN_le l
      rw [e1] at H1
      rw [e2] at H2
      rw [e3] at H3
      rw [e4] at H4
      rw [e6] at H5
      rw [hlen] at H1 H2 e9
      have hqq : ∀ w v, Bytes w v (l ++ l1) → ∃ ar cr, v = .slice ar (l ++ l1).length cr := by rintro w v ⟨ar, cr, e, -⟩; exact ⟨ar, cr, e⟩
      have hS : (l.map (Value.int .u8) ++ l1.map (Value.int .u8)).length = (l ++ l1).length := by simp
      have hT1 : (l ++ l1).length ≤ len0 + len1 := by omega
      have hT2 : len0 + len1 ≤ (l ++ l1).length := by omega
      have HQ := Lib.hid hqq
      clear hS hqq
      generalize (l ++ l1).length = N at *
      have H6' : Hid (whole = false → ∀ w v, Bytes w v (l ++ l1) → Calls Try.prog 15 #[v, .int .i64 0, .int .i64 ((n : Int) + 1)] w fun e w' => e = .returned (.bool false) ∧ Below w.heap.size w w') := by
        intro hw w v h
        have := H6.out w v h
        rwa [e8 hw] at this
      have hr : ∀ x ∈ l ++ l1, 0 ≤ x ∧ x ≤ 255 := by
        obtain ⟨_, _, _, _, _, q, _⟩ := HB.out
        obtain ⟨_, _, _, _, _, q1, _⟩ := HB1.out
        intro x hx
        rcases List.mem_append.1 hx with h | h
        · exact q x h
        · exact q1 x h
      have HR := Lib.hid hr
      have HT := Lib.hid hT
      clear hr e1 e2 e3 e4 e6 e8 H6 hB hB1 hT
      generalize Utf.firstN l = m at *
      obtain ⟨i0, hi, hz0, hz1, hz2⟩ := info_parts (show (Try.prog.info? 5).map (fun i => (i.zero, i.size, i.bytes)) = some (some (.int .u8 0), 1, 1) by kernel_rfl)
      have HI := Lib.hid hi
      have HZ0 := Lib.hid hz0
      have HZ1 := Lib.hid hz1
      have HZ2 := Lib.hid hz2
      clear hi hz0 hz1 hz2
      have L0 := Lib.hid hlen
      have L1 := Lib.hid hlen1
      clear hlen hlen1
      have z1' : decide ((N : Int) < (n : Int)) = false := by simp; omega
      cases whole <;> rcases hcase with ⟨rfl, rfl⟩ | rfl <;> try cases two
      all_goals
        try have H6 := Lib.hid (H6'.out rfl)
        clear H6'
        go_enter Try.func3, Try.ntmps3
        go_wp2_with (first
          | (go_at_call 14; refine (h0.out _).mono ?_; rintro e v1 ⟨rfl, b0⟩; have q0 := Lib.hid (HB.out.below b0))
          | (refine wpList_append_src rfl (.const (.slice none 0 0)) (.tmp 25) 22 rfl v1.heap.size 5 i0 (.int .u8 0) 1 1 Try.underlying22 HI.out HZ0.out HZ1.out HZ2.out rfl (by decide) (.slice none 0 0) 0 [] rfl ⟨rfl, .inl ⟨rfl, rfl⟩⟩ a0 len0 cap0 (l.map (Value.int .u8)) rfl (by simp [L0.out]) q0.out.src.2 (bytes_oneCell l) (by unfold maxLen; omega) (by omega) (Nat.le_refl _) ?_; intro r1 v2 own1 g1; have b2 : Below v1.heap.size v1 v2 := (Below.refl _ _).grown g1 (Nat.le_refl _) (by rintro k ⟨⟩); have q1 := Lib.hid (HB1.out.below (b0.nx b2)))
          | (refine wpList_append_src rfl (.tmp 26) (.tmp 27) 22 rfl v1.heap.size 5 i0 (.int .u8 0) 1 1 Try.underlying22 HI.out HZ0.out HZ1.out HZ2.out rfl (by decide) r1 (0 + len0) ([] ++ l.map (Value.int .u8)) rfl own1 a1 len1 cap1 (l1.map (Value.int .u8)) rfl (by simp [L1.out]) q1.out.src.2 (bytes_oneCell l1) (by unfold maxLen; omega) (by omega) g1.size ?_; intro r2 v3 own2 g2; have b3 : Below v1.heap.size v1 v3 := b2.grown g2 g1.size (by intro k hk; obtain ⟨-, ⟨e, -⟩ | ⟨g, cc, cu, e, hg, -⟩⟩ := own1 <;> subst e <;> simp [Value.ownBlock] at hk; omega); have q2 : Hid (Bytes v3 r2 (l ++ l1)) := Bytes.of_owns (by simpa using own2) HR.out; clear own1 own2 q1 q0; obtain ⟨ar, cr, er⟩ := HQ.out _ _ q2.out; subst er; have B : Below v3.heap.size v3 v3 := Below.refl _ _)
          | (go_at_call 15; (with_reducible refine (H1.out _ _ (q2.out.below B)).mono ?_); rintro e vx ⟨rfl, bx⟩; have B := B.nx bx)
          | (go_at_call 15; (with_reducible refine (H2.out _ _ (q2.out.below B)).mono ?_); rintro e vx ⟨rfl, bx⟩; have B := B.nx bx)
          | (go_at_call 15; (with_reducible refine (H3.out _ _ (q2.out.below B)).mono ?_); rintro e vx ⟨rfl, bx⟩; have B := B.nx bx)
          | (go_at_call 15; (with_reducible refine (H5.out _ _ (q2.out.below B)).mono ?_); rintro e vx ⟨rfl, bx⟩; have B := B.nx bx)
          | (go_at_call 15; (with_reducible refine (H6.out _ _ (q2.out.below B)).mono ?_); rintro e vx ⟨rfl, bx⟩; have B := B.nx bx)
          | (go_at_call 16; (with_reducible refine (H4.out _ _ (q2.out.below B)).mono ?_); rintro e vx ⟨rfl, bx⟩; have B := B.nx bx)
          | (go_at_call 16; (with_reducible refine (H7.out _ (HB.out.below ((b0.nx b3).nx B))).mono ?_); rintro e vx ⟨rfl, bx⟩; have B := B.nx bx))
        go_ret
        exact ⟨rfl, (b0.nx b3).nx B⟩
    · go_enter Try.func3, Try.ntmps3
      go_wp2_with fail
      refine (h0.out _).mono ?_
      rintro e v0 ⟨rfl, b0⟩
      go_wp2_with fail
      go_ret
      exact ⟨rfl, b0⟩
  · go_enter Try.func3, Try.ntmps3
    go_wp2_with fail
    refine (h0.out _).mono ?_
    rintro e v0 ⟨rfl, b0⟩
    go_wp2_with fail
    go_ret
    exact ⟨rfl, b0⟩

/-! ### THE ROW's STEP: WRITTEN OUT: LEAVE IT -/
set_option maxRecDepth 100000 in
theorem lifted (os : Os) (started : os.Started) (H : Type) (enc : TypeId × Value → H) :
    ReturnsInHanded {} Try.checked os 3 .any (Rows.utfPartsSpec.pre6 enc Try.prog Try.f3 Rows.utfPartsRow.domain false) (Rows.utfPartsSpec.post enc Try.prog Try.f3 false true false false) := by
  refine returnsInHanded_of_change (C := Try.checked) own started (by kernel_rfl) Try.func3
    (ChangeSpec.witness6 (enc := enc) (C := Try.checked) false ⟨#[], #[.slice none 0 0, .slice none 0 0], []⟩ 8 (by kernel_rfl) (by kernel_rfl) (by kernel_rfl) (by kernel_rfl)) ?_
  intro W base args ds gs before hval0 hW hcnd _
  have hval : ∀ (j : Nat) t v, Try.f3.params[j]? = some t → args[j]? = some v → Value.okWide Try.prog W .any base t v := hval0
  have hW' := hW
  obtain ⟨p, q, hA0, hV, rfl, hfz, hnd⟩ := hW
  have hA : DataW.TrodAll enc Try.prog W 0 (fun _ => true) true Try.f3.params.toList args.toList ds p := hA0
  rw [Try.params3] at hA hval
  obtain ⟨v0, vs0, d0, ds0, p0, q0, hargs, rfl, rfl, h0, r0⟩ := trodAll_cons hA
  obtain ⟨v1, vs1, d1, ds1, p1, q1, rfl, rfl, rfl, h1, r1⟩ := trodAll_cons r0
  obtain ⟨rfl, rfl, rfl⟩ := trodAll_nil r1
  obtain rfl : args = #[v0, v1] := by cases args; simp_all
  obtain ⟨rfl, rfl⟩ := trodVars_none hV
  obtain ⟨a0, len0, cap0, rfl⟩ := okWide_slice Try.underlying22 (hval 0 22 v0 rfl rfl)
  have k0 := h0
  have lt0 : ∀ x ∈ p0, x.block < W.heap.size := by obtain ⟨m, hm⟩ := k0; exact DataW.trod_lt m _ _ _ hm
  obtain ⟨z0, w0⟩ : ∃ zs, IsRow .u8 W a0 len0 cap0 zs := by
    obtain ⟨fuel, hf⟩ := h0
    rcases open_ints Try.underlying22 Try.underlying5 (by kernel_rfl) hf with ⟨hcs, _⟩ | ⟨x, l, c, zs, hcs, _, hl, hm, hz, _, hcell, hwz⟩
    · simp [Value.cells] at hcs
      obtain ⟨rfl, rfl, rfl⟩ := hcs
      exact ⟨[], .inl ⟨rfl, rfl, rfl, rfl⟩⟩
    · simp [Value.cells] at hcs
      obtain ⟨rfl, rfl, rfl⟩ := hcs
      exact ⟨zs, .inr ⟨_, rfl, hl, hm, by simpa using hz, hcell, hwz⟩⟩
  obtain ⟨a1, len1, cap1, rfl⟩ := okWide_slice Try.underlying22 (hval 1 22 v1 rfl rfl)
  have k1 := h1
  have lt1 : ∀ x ∈ p1, x.block < W.heap.size := by obtain ⟨m, hm⟩ := k1; exact DataW.trod_lt m _ _ _ hm
  obtain ⟨z1, w1⟩ : ∃ zs, IsRow .u8 W a1 len1 cap1 zs := by
    obtain ⟨fuel, hf⟩ := h1
    rcases open_ints Try.underlying22 Try.underlying5 (by kernel_rfl) hf with ⟨hcs, _⟩ | ⟨x, l, c, zs, hcs, _, hl, hm, hz, _, hcell, hwz⟩
    · simp [Value.cells] at hcs
      obtain ⟨rfl, rfl, rfl⟩ := hcs
      exact ⟨[], .inl ⟨rfl, rfl, rfl, rfl⟩⟩
    · simp [Value.cells] at hcs
      obtain ⟨rfl, rfl, rfl⟩ := hcs
      exact ⟨zs, .inr ⟨_, rfl, hl, hm, by simpa using hz, hcell, hwz⟩⟩
  clear hA0 hval0
  refine (walk a0 len0 cap0 z0 a1 len1 cap1 z1 W w0 w1).mono fun e W' ⟨he, bel⟩ => ?_
  subst he
  exact ⟨_, rfl, _, _, _, [], _, [], hW', trodAll_mk1 (shut_bool Try.underlying4 _), (trodAll_cons_mk (Below.trod laidOut (by kernel_rfl) (of_decide_eq_true (by kernel_rfl)) k0 bel lt0) (trodAll_cons_mk (Below.trod laidOut (by kernel_rfl) (of_decide_eq_true (by kernel_rfl)) k1 bel lt1) trodAll_mk0)), rfl, bel.frame _, fun h => by cases h⟩

theorem over : Rows.utfPartsRow.holds Try.pinned (OpenSpec.ofChange Rows.utfPartsSpec) :=
  OpenClaim.holds_of_wide 3 Try.f3 rfl rfl rfl rfl rfl rfl rfl ⟨rfl, rfl, rfl, rfl, rfl⟩ rfl rfl rfl rfl rfl (by kernel_rfl) Try.func3 (by kernel_rfl)
    (of_decide_eq_true (by kernel_rfl)) (by unfold Func.isWrapper; first | (rw [if_pos (by decide +kernel)]; kernel_rfl) | (rw [if_neg (by decide +kernel)]; exact ⟨rfl, rfl⟩))
    (fun os started H enc _ => lifted os started H enc)

/-- THE STATEMENT -/
theorem proved : Rows.UtfPartsSaid := over
#print axioms proved
end Go.Proofs.Ytpgbipkcjbhkdaa.utfParts
