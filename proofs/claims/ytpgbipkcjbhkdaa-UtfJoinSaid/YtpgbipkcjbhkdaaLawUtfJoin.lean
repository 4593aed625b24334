/- The statement UtfJoin: for all bytes, behind what is fine as many first bytes are as of what follows alone; no condition. -/
import Derived.Test.YtpgbipkcjbhkdaaRows
import Derived.WalkKit
import Derived.ProofKit
import Derived.OpenShut
import Derived.ShutString
import Derived.ChangeOld
import Derived.Below
import Derived.Test.YtpgbipkcjbhkdaaUtfRef2
namespace Go.Proofs.Ytpgbipkcjbhkdaa.utfJoin
open Go.ChangeShapes Go.WideShapes Go.ChangeAt Go.RowKit
open Go.ChangeMaps (open_string shut_string)
set_option linter.unusedVariables false
set_option linter.unusedSimpArgs false

theorem own : ownKnob Try.prog.godebug = none := by kernel_rfl
theorem laidOut : laidOutB Try.prog = true := by kernel_rfl

/-- WHAT THE WALK IS TOLD OF A SLICE OF INTEGERS THAT CAME IN: it is nil; or it leads to a row of 'cap' cells, the numbers 'zs' (the first 'len' are its elements, the rest its spare room), each fitting its kind. -/
def IsRow (k : IntKind) (w : World) (a : Option Addr) (len cap : Nat) (zs : List Int) : Prop :=
  (a = none ∧ len = 0 ∧ cap = 0 ∧ zs = []) ∨
  ∃ x, a = some x ∧ len ≤ cap ∧ cap ≤ maxLen ∧ zs.length = cap ∧ (∀ i, i < zs.length → w.cell? (x.add i) = some (.int k (zs.getD i 0))) ∧ ∀ n ∈ zs, (Lit.int k n).wf = true

theorem bytes_of {w : World} {a : Option Addr} {len cap : Nat} {z : List Int} (h : IsRow .u8 w a len cap z) : Bytes w (.slice a len cap) (z.take len) ∧ (z.take len).length = len := by
  rcases h with ⟨rfl, rfl, rfl, rfl⟩ | ⟨x, rfl, hl, hm, hz, hc, hw⟩
  · exact ⟨⟨none, 0, rfl, by simp, by unfold maxLen; omega, by simp, fun _ => rfl, fun h => absurd rfl h⟩, rfl⟩
  · have hlen : (z.take len).length = len := by simp; omega
    refine ⟨⟨some x, cap, by rw [hlen], by omega, hm, fun n hn => ?_, by simp, fun hne => ?_⟩, hlen⟩
    · have := bounds_u8 (hw n (List.mem_of_mem_take hn)); exact this
    · have h0 : 0 < len := by
        rcases Nat.eq_zero_or_pos len with h | h
        · subst h; simp at hne
        · exact h
      have c0 := hc 0 (by omega)
      obtain ⟨b, off, spot⟩ := x
      have hs : spot = none := by
        cases spot with
        | none => rfl
        | some s =>
          simp only [Addr.add, if_true, World.cell?, Option.isSome_some] at c0
          split at c0 <;> simp at c0
      subst hs
      refine ⟨b, off, rfl, fun i hi => ?_⟩
      have := hc i (by omega)
      have e : (⟨b, off, none⟩ : Addr).add i = ⟨b, off + i, none⟩ := by unfold Addr.add; split <;> simp_all
      rw [e] at this
      rw [this]
      congr 2
      simp only [List.getD, List.getElem?_take]
      rw [if_pos (by omega)]

/-! ### STEP 1: THE WALK: the Go text returns true, AND WRITES NOTHING THAT WAS THERE: 'Below w.heap.size w w'' (Derived/Below.lean: '.refl', '.alloc', '.drew', '.setCell' at a new block, '.trans'). Open each 'IsRow' by 'rcases' AHEAD of 'go_enter'; part every test ahead of the walk. -/
set_option maxHeartbeats 8000000 in
set_option maxRecDepth 100000 in
theorem walk (a0 : Option Addr) (len0 cap0 : Nat) (z0 : List Int) (a1 : Option Addr) (len1 cap1 : Nat) (z1 : List Int) (w : World) (w0 : IsRow .u8 w a0 len0 cap0 z0) (w1 : IsRow .u8 w a1 len1 cap1 z1) :
    Calls Try.prog 5 #[.slice a0 len0 cap0, .slice a1 len1 cap1] w fun e w' => e = .returned (.bool true) ∧ Below w.heap.size w w' := by
  obtain ⟨hB, hlen⟩ := bytes_of w0
  obtain ⟨hB1, hlen1⟩ := bytes_of w1
  generalize z0.take len0 = l at hB hlen
  generalize z1.take len1 = l1 at hB1 hlen1
  clear w0 w1
  have h0 := Lib.hid (fun w => utf_awake w)
  by_cases c0 : len0 ≤ 3000
  · by_cases c1 : len1 ≤ 3000
    · have hm : l.length ≤ 140737488355328 := by omega
      have hm1 : l1.length ≤ 140737488355328 := by omega
      have H1 := Lib.hid (fun w h => utf_first w (.slice a0 len0 cap0) l h hm)
      have H2 := Lib.hid (fun w h => utf_first w (.slice a1 len1 cap1) l1 h hm1)
      have HB := Lib.hid hB
      have HB1 := Lib.hid hB1
      by_cases hf : Utf.firstN l = l.length
      · have hj := Utf.firstN_append l l1 hf
        have H3 := Lib.hid (fun w v h => utf_first w v (l ++ l1) h (by simp; omega))
        rw [hj] at H3
        rw [hf, hlen] at H1
        rw [hlen] at H3
        clear hj hf hB hB1
        have hle := Utf.firstN_le l1
        have hr : ∀ x ∈ l ++ l1, 0 ≤ x ∧ x ≤ 255 := by
          obtain ⟨_, _, _, _, _, q, _⟩ := HB.out
          obtain ⟨_, _, _, _, _, q1, _⟩ := HB1.out
          intro x hx
          rcases List.mem_append.1 hx with h | h
          · exact q x h
          · exact q1 x h
        have HR := Lib.hid hr
        clear hr
        generalize Utf.firstN l1 = n1 at *
        obtain ⟨i0, hi, hz0, hz1, hz2⟩ := info_parts (show (Try.prog.info? 5).map (fun i => (i.zero, i.size, i.bytes)) = some (some (.int .u8 0), 1, 1) by kernel_rfl)
        have HI := Lib.hid hi
        have HZ0 := Lib.hid hz0
        have HZ1 := Lib.hid hz1
        have HZ2 := Lib.hid hz2
        clear hi hz0 hz1 hz2
        have hl1 : l.length = len0 := hlen
        have L0 := Lib.hid hlen
        have L1 := Lib.hid hlen1
        clear hlen hlen1 hl1
        go_enter Try.func5, Try.ntmps5
        go_wp2_with fail
        refine (h0.out _).mono ?_
        rintro e v0 ⟨rfl, b0⟩
        go_wp2_with fail
        refine (H1.out _ (HB.out.below b0)).mono ?_
        rintro e v1 ⟨rfl, b1⟩
        have q0 := Lib.hid (HB.out.below (b0.nx b1))
        go_wp2_with (first
          | (refine wpList_append_src rfl (.const (.slice none 0 0)) (.tmp 27) 22 rfl v1.heap.size 5 i0 (.int .u8 0) 1 1 Try.underlying22 HI.out HZ0.out HZ1.out HZ2.out rfl (by decide) (.slice none 0 0) 0 [] rfl ⟨rfl, .inl ⟨rfl, rfl⟩⟩ a0 len0 cap0 (l.map (Value.int .u8)) rfl (by simp [L0.out]) q0.out.src.2 (bytes_oneCell l) (by unfold maxLen; omega) (by omega) (Nat.le_refl _) ?_; intro r1 v2 own1 g1; have b2 : Below v1.heap.size v1 v2 := (Below.refl _ _).grown g1 (Nat.le_refl _) (by rintro k ⟨⟩); have q1 := Lib.hid (HB1.out.below ((b0.nx b1).nx b2)))
          | (refine wpList_append_src rfl (.tmp 28) (.tmp 29) 22 rfl v1.heap.size 5 i0 (.int .u8 0) 1 1 Try.underlying22 HI.out HZ0.out HZ1.out HZ2.out rfl (by decide) r1 (0 + len0) ([] ++ l.map (Value.int .u8)) rfl own1 a1 len1 cap1 (l1.map (Value.int .u8)) rfl (by simp [L1.out]) q1.out.src.2 (bytes_oneCell l1) (by unfold maxLen; omega) (by omega) g1.size ?_; intro r2 v3 own2 g2; have b3 : Below v1.heap.size v1 v3 := b2.grown g2 g1.size (by intro k hk; obtain ⟨-, ⟨e, -⟩ | ⟨g, cc, cu, e, hg, -⟩⟩ := own1 <;> subst e <;> simp [Value.ownBlock] at hk; omega)))
        have q2 : Bytes v3 r2 (l ++ l1) := Bytes.of_owns (by simpa using own2) HR.out
        refine (H3.out _ _ q2).mono ?_
        rintro e v4 ⟨rfl, b4⟩
        go_wp2_with fail
        refine (H2.out _ (HB1.out.below (((b0.nx b1).nx b3).nx b4))).mono ?_
        rintro e v5 ⟨rfl, b5⟩
        go_wp2_with fail
        go_ret
        exact ⟨by simp, (((b0.nx b1).nx b3).nx b4).nx b5⟩
      · have hle := Utf.firstN_le l
        rw [hlen] at hf hle
        have hne : ((Utf.firstN l : Int) != (len0 : Int)) = true := by simp; omega
        clear hf hB hB1
        generalize Utf.firstN l = n at *
        go_enter Try.func5, Try.ntmps5
        go_wp2_with fail
        refine (h0.out _).mono ?_
        rintro e v0 ⟨rfl, b0⟩
        go_wp2_with fail
        refine (H1.out _ (HB.out.below b0)).mono ?_
        rintro e v1 ⟨rfl, b1⟩
        go_wp2_with fail
        go_ret
        exact ⟨rfl, b0.nx b1⟩
    · go_enter Try.func5, Try.ntmps5
      go_wp2_with fail
      refine (h0.out _).mono ?_
      rintro e v0 ⟨rfl, b0⟩
      go_wp2_with fail
      go_ret
      exact ⟨rfl, b0⟩
  · go_enter Try.func5, Try.ntmps5
    go_wp2_with fail
    refine (h0.out _).mono ?_
    rintro e v0 ⟨rfl, b0⟩
    go_wp2_with fail
    go_ret
    exact ⟨rfl, b0⟩

/-! ### THE ROW's STEP: WRITTEN OUT: LEAVE IT -/
set_option maxRecDepth 100000 in
theorem lifted (os : Os) (started : os.Started) (H : Type) (enc : TypeId × Value → H) :
    ReturnsInHanded {} Try.checked os 5 .any (Rows.utfJoinSpec.pre6 enc Try.prog Try.f5 Rows.utfJoinRow.domain false) (Rows.utfJoinSpec.post enc Try.prog Try.f5 false true false false) := by
  refine returnsInHanded_of_change (C := Try.checked) own started (by kernel_rfl) Try.func5
    (ChangeSpec.witness6 (enc := enc) (C := Try.checked) false ⟨#[], #[.slice none 0 0, .slice none 0 0], []⟩ 8 (by kernel_rfl) (by kernel_rfl) (by kernel_rfl) (by kernel_rfl)) ?_
  intro W base args ds gs before hval0 hW hcnd _
  have hval : ∀ (j : Nat) t v, Try.f5.params[j]? = some t → args[j]? = some v → Value.okWide Try.prog W .any base t v := hval0
  have hW' := hW
  obtain ⟨p, q, hA0, hV, rfl, hfz, hnd⟩ := hW
  have hA : DataW.TrodAll enc Try.prog W 0 (fun _ => true) true Try.f5.params.toList args.toList ds p := hA0
  rw [Try.params5] at hA hval
  obtain ⟨v0, vs0, d0, ds0, p0, q0, hargs, rfl, rfl, h0, r0⟩ := trodAll_cons hA
  obtain ⟨v1, vs1, d1, ds1, p1, q1, rfl, rfl, rfl, h1, r1⟩ := trodAll_cons r0
  obtain ⟨rfl, rfl, rfl⟩ := trodAll_nil r1
  obtain rfl : args = #[v0, v1] := by cases args; simp_all
  obtain ⟨rfl, rfl⟩ := trodVars_none hV
  obtain ⟨a0, len0, cap0, rfl⟩ := okWide_slice Try.underlying22 (hval 0 22 v0 rfl rfl)
  have k0 := h0
  have lt0 : ∀ x ∈ p0, x.block < W.heap.size := by obtain ⟨m, hm⟩ := k0; exact DataW.trod_lt m _ _ _ hm
  obtain ⟨z0, w0⟩ : ∃ zs, IsRow .u8 W a0 len0 cap0 zs := by
    obtain ⟨fuel, hf⟩ := h0
    rcases open_ints Try.underlying22 Try.underlying5 (by kernel_rfl) hf with ⟨hcs, _⟩ | ⟨x, l, c, zs, hcs, _, hl, hm, hz, _, hcell, hwz⟩
    · simp [Value.cells] at hcs
      obtain ⟨rfl, rfl, rfl⟩ := hcs
      exact ⟨[], .inl ⟨rfl, rfl, rfl, rfl⟩⟩
    · simp [Value.cells] at hcs
      obtain ⟨rfl, rfl, rfl⟩ := hcs
      exact ⟨zs, .inr ⟨_, rfl, hl, hm, by simpa using hz, hcell, hwz⟩⟩
  obtain ⟨a1, len1, cap1, rfl⟩ := okWide_slice Try.underlying22 (hval 1 22 v1 rfl rfl)
  have k1 := h1
  have lt1 : ∀ x ∈ p1, x.block < W.heap.size := by obtain ⟨m, hm⟩ := k1; exact DataW.trod_lt m _ _ _ hm
  obtain ⟨z1, w1⟩ : ∃ zs, IsRow .u8 W a1 len1 cap1 zs := by
    obtain ⟨fuel, hf⟩ := h1
    rcases open_ints Try.underlying22 Try.underlying5 (by kernel_rfl) hf with ⟨hcs, _⟩ | ⟨x, l, c, zs, hcs, _, hl, hm, hz, _, hcell, hwz⟩
    · simp [Value.cells] at hcs
      obtain ⟨rfl, rfl, rfl⟩ := hcs
      exact ⟨[], .inl ⟨rfl, rfl, rfl, rfl⟩⟩
    · simp [Value.cells] at hcs
      obtain ⟨rfl, rfl, rfl⟩ := hcs
      exact ⟨zs, .inr ⟨_, rfl, hl, hm, by simpa using hz, hcell, hwz⟩⟩
  clear hA0 hval0
  refine (walk a0 len0 cap0 z0 a1 len1 cap1 z1 W w0 w1).mono fun e W' ⟨he, bel⟩ => ?_
  subst he
  exact ⟨_, rfl, _, _, _, [], _, [], hW', trodAll_mk1 (shut_bool Try.underlying4 _), (trodAll_cons_mk (Below.trod laidOut (by kernel_rfl) (of_decide_eq_true (by kernel_rfl)) k0 bel lt0) (trodAll_cons_mk (Below.trod laidOut (by kernel_rfl) (of_decide_eq_true (by kernel_rfl)) k1 bel lt1) trodAll_mk0)), rfl, bel.frame _, fun h => by cases h⟩

theorem over : Rows.utfJoinRow.holds Try.pinned (OpenSpec.ofChange Rows.utfJoinSpec) :=
  OpenClaim.holds_of_wide 5 Try.f5 rfl rfl rfl rfl rfl rfl rfl ⟨rfl, rfl, rfl, rfl, rfl⟩ rfl rfl rfl rfl rfl (by kernel_rfl) Try.func5 (by kernel_rfl)
    (of_decide_eq_true (by kernel_rfl)) (by unfold Func.isWrapper; first | (rw [if_pos (by decide +kernel)]; kernel_rfl) | (rw [if_neg (by decide +kernel)]; exact ⟨rfl, rfl⟩))
    (fun os started H enc _ => lifted os started H enc)

/-- THE STATEMENT -/
theorem proved : Rows.UtfJoinSaid := over
#print axioms proved
end Go.Proofs.Ytpgbipkcjbhkdaa.utfJoin
