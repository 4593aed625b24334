/- The statement UtfAscii: for all bytes, a place and a byte, bytes below 128 are fine and some bytes never are; no condition. -/
import Derived.Test.YtpgbipkcjbhkdaaRows
import Derived.WalkKit
import Derived.ProofKit
import Derived.OpenShut
import Derived.ShutString
import Derived.ChangeOld
import Derived.Below
import Derived.Test.YtpgbipkcjbhkdaaUtfRef2
namespace Go.Proofs.Ytpgbipkcjbhkdaa.utfAscii
open Go.ChangeShapes Go.WideShapes Go.ChangeAt Go.RowKit
open Go.ChangeMaps (open_string shut_string)
set_option linter.unusedVariables false
set_option linter.unusedSimpArgs false

theorem own : ownKnob Try.prog.godebug = none := by kernel_rfl
theorem laidOut : laidOutB Try.prog = true := by kernel_rfl

/-- WHAT THE WALK IS TOLD OF A SLICE OF INTEGERS THAT CAME IN: it is nil; or it leads to a row of 'cap' cells, the numbers 'zs' (the first 'len' are its elements, the rest its spare room), each fitting its kind. -/
def IsRow (k : IntKind) (w : World) (a : Option Addr) (len cap : Nat) (zs : List Int) : Prop :=
  (a = none ∧ len = 0 ∧ cap = 0 ∧ zs = []) ∨
  ∃ x, a = some x ∧ len ≤ cap ∧ cap ≤ maxLen ∧ zs.length = cap ∧ (∀ i, i < zs.length → w.cell? (x.add i) = some (.int k (zs.getD i 0))) ∧ ∀ n ∈ zs, (Lit.int k n).wf = true

theorem bytes_of {w : World} {a : Option Addr} {len cap : Nat} {z : List Int} (h : IsRow .u8 w a len cap z) : Bytes w (.slice a len cap) (z.take len) ∧ (z.take len).length = len := by
  rcases h with ⟨rfl, rfl, rfl, rfl⟩ | ⟨x, rfl, hl, hm, hz, hc, hw⟩
  · exact ⟨⟨none, 0, rfl, by simp, by unfold maxLen; omega, by simp, fun _ => rfl, fun h => absurd rfl h⟩, rfl⟩
  · have hlen : (z.take len).length = len := by simp; omega
    refine ⟨⟨some x, cap, by rw [hlen], by omega, hm, fun n hn => ?_, by simp, fun hne => ?_⟩, hlen⟩
    · have := bounds_u8 (hw n (List.mem_of_mem_take hn)); exact this
    · have h0 : 0 < len := by
        rcases Nat.eq_zero_or_pos len with h | h
        · subst h; simp at hne
        · exact h
      have c0 := hc 0 (by omega)
      obtain ⟨b, off, spot⟩ := x
      have hs : spot = none := by
        cases spot with
        | none => rfl
        | some s =>
          simp only [Addr.add, if_true, World.cell?, Option.isSome_some] at c0
          split at c0 <;> simp at c0
      subst hs
      refine ⟨b, off, rfl, fun i hi => ?_⟩
      have := hc i (by omega)
      have e : (⟨b, off, none⟩ : Addr).add i = ⟨b, off + i, none⟩ := by unfold Addr.add; split <;> simp_all
      rw [e] at this
      rw [this]
      congr 2
      simp only [List.getD, List.getElem?_take]
      rw [if_pos (by omega)]
/-- The bytes brought below 128, as far as a place; zeros behind it. -/
def lowUpTo (l : List Int) (k : Nat) : List Int := (l.take k).map (· % 128) ++ List.replicate (l.length - k) 0
theorem lowUpTo_length (l : List Int) (k : Nat) (hk : k ≤ l.length) : (lowUpTo l k).length = l.length := by simp [lowUpTo]; omega
theorem lowUpTo_set (l : List Int) (k : Nat) (hk : k < l.length) : ((lowUpTo l k).map (Value.int .u8)).set k (.int .u8 (l.getD k 0 % 128)) = (lowUpTo l (k + 1)).map (Value.int .u8) := by
  apply List.ext_getElem?
  intro i
  have h1 := lowUpTo_length l k (by omega)
  have h2 := lowUpTo_length l (k + 1) (by omega)
  by_cases hi : i < l.length
  · rw [List.getElem?_eq_getElem (show i < (((lowUpTo l k).map (Value.int .u8)).set k (.int .u8 (l.getD k 0 % 128))).length by rw [List.length_set, List.length_map]; omega), List.getElem?_eq_getElem (show i < ((lowUpTo l (k + 1)).map (Value.int .u8)).length by rw [List.length_map]; omega)]
    congr 1
    rw [List.getElem_set]
    simp only [List.getElem_map, lowUpTo]
    split
    · rename_i e; subst e
      rw [List.getElem_append_left (by simp; omega)]
      simp [List.getD, hk]
    · rename_i e
      by_cases hik : i < k
      · rw [List.getElem_append_left (by simp; omega), List.getElem_append_left (by simp; omega)]
        simp
      · rw [List.getElem_append_right (by simp; omega), List.getElem_append_right (by simp; omega)]
        simp
  · rw [List.getElem?_eq_none (by simp; omega), List.getElem?_eq_none (by simp; omega)]
theorem lowUpTo_end (l : List Int) : lowUpTo l l.length = l.map (· % 128) := by simp [lowUpTo]
theorem fine_all (L : List Int) : Utf.fineB L 0 (L.length : Int) = decide (Utf.firstN L = L.length) := by
  unfold Utf.fineB
  rw [Bool.eq_iff_iff]
  simp
theorem owns_form {w : World} {base size n : Nat} {e : TypeId} {v : Value} {xs : List Value} (h : w.ownsRow base e size v n xs) (hn : 0 < n) : ∃ g cap, v = .slice (some ⟨g, 0, none⟩) n cap := by
  rcases h.2 with ⟨-, h⟩ | ⟨g, cap, cur, rfl, -⟩
  · omega
  · exact ⟨g, cap, rfl⟩

/-! ### STEP 1: THE WALK: the Go text returns true, AND WRITES NOTHING THAT WAS THERE: 'Below w.heap.size w w'' (Derived/Below.lean: '.refl', '.alloc', '.drew', '.setCell' at a new block, '.trans'). Open each 'IsRow' by 'rcases' AHEAD of 'go_enter'; part every test ahead of the walk. -/
set_option maxHeartbeats 8000000 in
set_option maxRecDepth 100000 in
theorem walk (a0 : Option Addr) (len0 cap0 : Nat) (z0 : List Int) (a1 : Int) (a2 : Int) (w : World) (w0 : IsRow .u8 w a0 len0 cap0 z0) (w1 : (Lit.int .i64 a1).wf = true) (w2 : (Lit.int .u8 a2).wf = true) :
    Calls Try.prog 4 #[.slice a0 len0 cap0, .int .i64 a1, .int .u8 a2] w fun e w' => e = .returned (.bool true) ∧ Below w.heap.size w w' := by
  obtain ⟨hB, hlen⟩ := bytes_of w0
  generalize z0.take len0 = l at hB hlen
  clear w0
  obtain ⟨i0, i1⟩ := bounds_i64 w1
  obtain ⟨x0, x1⟩ := bounds_u8 w2
  have h0 := Lib.hid (fun w => utf_awake w)
  by_cases hg : len0 ≤ 3000 ∧ 0 ≤ a1 ∧ a1 < len0
  · obtain ⟨c0, c1, c2⟩ := hg
    obtain ⟨p, rfl⟩ := Int.eq_ofNat_of_zero_le c1
    have hp : p < l.length := by omega
    have hb := hB.choose_spec.choose_spec.2.2.2.1
    have HB := Lib.hid hB
    -- what Fine and First tell of the three rows
    have hlow : ∀ n ∈ l.map (· % 128), n ≤ 127 := by
      intro n hn
      obtain ⟨x, hx, rfl⟩ := List.mem_map.1 hn
      omega
    have e1 := Utf.firstN_low _ hlow
    have e2 : Utf.firstN (l.set p (245 + a2 % 11)) ≤ p := Utf.firstN_never _ _ (by simp [List.getD, hp, Utf.never]; omega)
    have e3 : Utf.firstN (l.set p (192 + a2 % 2)) ≤ p := Utf.firstN_never _ _ (by simp [List.getD, hp, Utf.never]; omega)
    have b1 : ∀ n ∈ l.map (· % 128), 0 ≤ n ∧ n ≤ 255 := by
      intro n hn
      obtain ⟨x, hx, rfl⟩ := List.mem_map.1 hn
      omega
    have b2 : ∀ n ∈ l.set p (245 + a2 % 11), 0 ≤ n ∧ n ≤ 255 := by
      intro n hn
      rcases List.mem_or_eq_of_mem_set hn with h | rfl
      · exact hb n h
      · omega
    have b3 : ∀ n ∈ l.set p (192 + a2 % 2), 0 ≤ n ∧ n ≤ 255 := by
      intro n hn
      rcases List.mem_or_eq_of_mem_set hn with h | rfl
      · exact hb n h
      · omega
    have f1 : Utf.fineB (l.map (· % 128)) 0 (len0 : Int) = true := by
      rw [show (len0 : Int) = ((l.map (· % 128)).length : Nat) by simp; omega, fine_all, e1]; simp
    have f2 : Utf.fineB (l.set p (245 + a2 % 11)) 0 (len0 : Int) = false := by
      rw [show (len0 : Int) = ((l.set p (245 + a2 % 11)).length : Nat) by simp; omega, fine_all]; simp; omega
    have f3 : Utf.fineB (l.set p (192 + a2 % 2)) 0 (len0 : Int) = false := by
      rw [show (len0 : Int) = ((l.set p (192 + a2 % 2)).length : Nat) by simp; omega, fine_all]; simp; omega
    have H1 := Lib.hid (fun w v h => f1 ▸ utf_fine w v (l.map (· % 128)) 0 (len0 : Int) h (by simp; omega) (by omega) (by omega) (by omega) (by omega))
    have H2 := Lib.hid (fun w v h => f2 ▸ utf_fine w v (l.set p (245 + a2 % 11)) 0 (len0 : Int) h (by simp; omega) (by omega) (by omega) (by omega) (by omega))
    have H3 := Lib.hid (fun w v h => f3 ▸ utf_fine w v (l.set p (192 + a2 % 2)) 0 (len0 : Int) h (by simp; omega) (by omega) (by omega) (by omega) (by omega))
    have H4 := Lib.hid (fun w v h => utf_first w v (l.set p (245 + a2 % 11)) h (by simp; omega))
    have HB1 := Lib.hid b1
    have HB2 := Lib.hid b2
    have HB3 := Lib.hid b3
    clear hlow e1 f1 f2 f3 b1 b2 b3 hb hB
    generalize Utf.firstN (l.set p (245 + a2 % 11)) = n4 at H4 e2
    clear e3
    obtain ⟨ai, hi, hz0, hz1, hz2⟩ := info_parts (show (Try.prog.info? 5).map (fun i => (i.zero, i.size, i.bytes)) = some (some (.int .u8 0), 1, 1) by kernel_rfl)
    have hby : ai.bytes * len0 ≤ 281474976710656 := by rw [hz2]; omega
    have HI := Lib.hid hi
    have HZ0 := Lib.hid hz0
    have HZ1 := Lib.hid hz1
    have HZ2 := Lib.hid hz2
    have HBY := Lib.hid hby
    clear hi hz0 hz1 hz2 hby
    have L0 := Lib.hid hlen
    have hl1 : len0 ≤ l.length := by omega
    have hl2 : l.length ≤ len0 := by omega
    clear hlen
    obtain ⟨ar, cr, er, hq1, hq2, hq3, hq5, hq4⟩ := HB.out
    obtain ⟨B0, off0, ea, hcell⟩ := hq4 (by intro h; subst h; simp at hp)
    obtain ⟨rfl, -, rfl⟩ : a0 = ar ∧ len0 = l.length ∧ cap0 = cr := by simpa using er
    subst ea
    have HC := Lib.hid hcell
    have HQ3 := Lib.hid (Utf.getD_range l hq3)
    clear er hq3 hq4 hq5 hcell
    go_enter Try.func4, Try.ntmps4
    go_wp2_with (first
      | (go_at_call 14; refine (h0.out _).mono ?_; rintro e v0 ⟨rfl, b0⟩)
      | (refine wpList_make_full _ rfl (.tmp 33) (.tmp 33) 22 rfl v0.heap.size 5 ai (.int .u8 0) 1 Try.underlying22 HI.out HZ0.out HZ1.out .i64 .i64 (len0 : Int) (len0 : Int) len0 rfl rfl rfl rfl HBY.out (by unfold maxLen; omega) (Nat.le_refl _) ?_; intro v1 own1 g1))
    have bm : Below v0.heap.size v0 v1 := (Below.refl _ _).grown g1 (Nat.le_refl _) (by rintro k ⟨⟩)
    rw [show (madeCells (Value.int .u8 0).cells (len0 * 1)).toList = (lowUpTo l 0).map (Value.int .u8) by
      simp only [Value.cells, Nat.mul_one]; rw [toList_madeCells_one]; simp [lowUpTo, L0.out]] at own1
    clear g1
    go_loopw [9] (fun i wr => ∃ k : Nat, k ≤ len0 ∧ i = .int .i64 k ∧ wr.ownsRow v0.heap.size 5 1 (.slice (some ⟨v0.heap.size, 0, none⟩) len0 len0) len0 ((lowUpTo l k).map (Value.int .u8)) ∧ Below v0.heap.size v0 wr) (fun i _ => len0 - (intOf i).toNat)
    case atStart => exact ⟨0, by omega, rfl, own1, bm⟩
    case round =>
      obtain ⟨k, hk, rfl, own, bw⟩ := hrel
      by_cases hlt : k < len0
      · have ck := (HB.out.below (b0.nx bw)).choose_spec
        have hcl : wr.cell? ⟨B0, off0 + k, none⟩ = some (.int .u8 (l.getD k 0)) := by
          have h := HC.out k (by omega)
          exact ((b0.nx bw).cell (p := ⟨B0, off0 + k, none⟩) (block_lt_of_cell h)).trans h
        obtain ⟨y0, y1⟩ := HQ3.out k
        have hcg : ∃ u, wr.cell? ⟨v0.heap.size, k, none⟩ = some u := by
          rw [own.cellAt k (by omega)]
          exact ⟨_, List.getElem?_eq_getElem (by rw [List.length_map, lowUpTo_length l k (by have := L0.out; omega), L0.out]; omega)⟩
        obtain ⟨u, hcg⟩ := hcg
        have hfg := own.frozenAt k
        have hst := own.stored k (.int .u8 (l.getD k 0 % 128))
        rw [lowUpTo_set l k (by have := L0.out; omega)] at hst
        have HST := Lib.hid hst
        have OWN := Lib.hid own
        clear hst own
        generalize l.getD k 0 = y at *
        go_wp2
        go_roundw
        case rel => exact ⟨k + 1, by omega, by go_num, HST.out.1, bw.setCell (Nat.le_refl _) _⟩
        case measure => simp [intOf]; omega
      · have hke : k = len0 := by omega
        subst hke
        have own1' : wr.ownsRow v0.heap.size 5 1 (.slice (some ⟨v0.heap.size, 0, none⟩) k k) k ((l.map (· % 128)).map (Value.int .u8)) := by
          have := own; rw [← L0.out, lowUpTo_end, L0.out] at this; exact this
        have q1 := Lib.hid (Bytes.of_owns own1' HB1.out)
        clear own own1 own1' hlt
        have L1 : Hid (∀ n : Int, (l.map (Value.int .u8)).set p (.int .u8 n) = (l.set p n).map (Value.int .u8)) := fun n => by rw [List.map_set]
        have HP : Hid (p < (l.map (Value.int .u8)).length) := by show _ < _; simp; omega
        go_wp2_with (first
          | (go_at_call 15; (with_reducible refine (H1.out _ _ q1.out).mono ?_); rintro e v2 ⟨rfl, b2⟩; have q2 := Lib.hid (HB.out.below ((b0.nx bw).nx b2)))
          | (refine wpList_append_src rfl (.const (.slice none 0 0)) (.tmp 53) 22 rfl v2.heap.size 5 ai (.int .u8 0) 1 1 Try.underlying22 HI.out HZ0.out HZ1.out HZ2.out rfl (by decide) (.slice none 0 0) 0 [] rfl ⟨rfl, .inl ⟨rfl, rfl⟩⟩ _ k cap0 (l.map (Value.int .u8)) rfl (by simp [L0.out]) q2.out.src.2 (bytes_oneCell l) (by unfold maxLen; omega) (by omega) (Nat.le_refl _) ?_; intro r1 v3 own3 g3; have b3 : Below v2.heap.size v2 v3 := (Below.refl _ _).grown g3 (Nat.le_refl _) (by rintro k ⟨⟩); rw [Nat.zero_add, List.nil_append] at own3; obtain ⟨g1, c1', rfl⟩ := owns_form own3 (by omega); have hc1 := (own3.cellAt p (by omega)).trans (List.getElem?_eq_getElem HP.out); have hf1 := own3.frozenAt p; have st3 := own3.stored p (.int .u8 (245 + a2 % 11)); rw [L1.out] at st3; have ST3 := Lib.hid st3; have HG1 := Lib.hid (own3.lt g1 rfl); clear own3 st3; have q3 := Lib.hid (HB.out.below (((b0.nx bw).nx b2).nx (b3.setCell (p := ⟨g1, p, none⟩) HG1.out.1 (.int .u8 (245 + a2 % 11))))))
          | (refine wpList_append_src rfl (.const (.slice none 0 0)) (.tmp 61) 22 rfl (v3.setCell ⟨g1, p, none⟩ (.int .u8 (245 + a2 % 11))).heap.size 5 ai (.int .u8 0) 1 1 Try.underlying22 HI.out HZ0.out HZ1.out HZ2.out rfl (by decide) (.slice none 0 0) 0 [] rfl ⟨rfl, .inl ⟨rfl, rfl⟩⟩ _ k cap0 (l.map (Value.int .u8)) rfl (by simp [L0.out]) q3.out.src.2 (bytes_oneCell l) (by unfold maxLen; omega) (by omega) (Nat.le_refl _) ?_; intro r2 v4 own4 g4; have b4 : Below v2.heap.size v2 v4 := (b3.setCell (p := ⟨g1, p, none⟩) HG1.out.1 (.int .u8 (245 + a2 % 11))).grown g4 (by have := b3.size; simpa using this) (by rintro k ⟨⟩); rw [Nat.zero_add, List.nil_append] at own4; obtain ⟨g2, c2', rfl⟩ := owns_form own4 (by omega); have hc2 := (own4.cellAt p (by omega)).trans (List.getElem?_eq_getElem HP.out); have hf2 := own4.frozenAt p; have st4 := own4.stored p (.int .u8 (192 + a2 % 2)); rw [L1.out] at st4; have ST4 := Lib.hid st4; have HG2 := Lib.hid (own4.lt g2 rfl); have q5 := Lib.hid (Bytes.of_owns ST4.out.1 HB3.out); have q4 := Lib.hid (Bytes.of_owns ((ST3.out.1.kept g4 (.inr (by simp [Value.ownBlock]))).kept ST4.out.2 (.inr (by intro h; simp only [Value.ownBlock, Option.some.injEq] at h; subst h; have h1 := HG1.out.2; have h2 := HG2.out.1; simp at h2; omega))) HB2.out); clear own4 st4; have B : Below (v4.setCell ⟨g2, p, none⟩ (.int .u8 (192 + a2 % 2))).heap.size (v4.setCell ⟨g2, p, none⟩ (.int .u8 (192 + a2 % 2))) (v4.setCell ⟨g2, p, none⟩ (.int .u8 (192 + a2 % 2))) := Below.refl _ _)
          | (go_at_call 15; (with_reducible refine (H2.out _ _ (q4.out.below B)).mono ?_); rintro e vx ⟨rfl, bx⟩; have B := B.nx bx)
          | (go_at_call 15; (with_reducible refine (H3.out _ _ (q5.out.below B)).mono ?_); rintro e vx ⟨rfl, bx⟩; have B := B.nx bx)
          | (go_at_call 16; (with_reducible refine (H4.out _ _ (q4.out.below B)).mono ?_); rintro e vx ⟨rfl, bx⟩; have B := B.nx bx))
        go_ret
        refine ⟨rfl, ?_⟩
        have bA := (b0.nx bw).nx b2
        have bB : Below v2.heap.size v2 (v4.setCell ⟨g2, p, none⟩ (.int .u8 (192 + a2 % 2))) := b4.setCell (p := ⟨g2, p, none⟩) (by have h2 := HG2.out.1; have := b3.size; simp at h2; show _ ≤ g2; omega) _
        exact (bA.nx bB).nx B
  · have hd : 3000 < len0 ∨ (len0 ≤ 3000 ∧ a1 < 0) ∨ (len0 ≤ 3000 ∧ 0 ≤ a1 ∧ (len0 : Int) ≤ a1) := by omega
    clear hg hB hlen
    rcases hd with q | ⟨q, q2⟩ | ⟨q, q2, q3⟩
    all_goals
      go_enter Try.func4, Try.ntmps4
      go_wp2_with fail
      refine (h0.out _).mono ?_
      rintro e v0 ⟨rfl, b0⟩
      go_wp2_with fail
      go_ret
      exact ⟨rfl, b0⟩

/-! ### THE ROW's STEP: WRITTEN OUT: LEAVE IT -/
set_option maxRecDepth 100000 in
theorem lifted (os : Os) (started : os.Started) (H : Type) (enc : TypeId × Value → H) :
    ReturnsInHanded {} Try.checked os 4 .any (Rows.utfAsciiSpec.pre6 enc Try.prog Try.f4 Rows.utfAsciiRow.domain false) (Rows.utfAsciiSpec.post enc Try.prog Try.f4 false true false false) := by
  refine returnsInHanded_of_change (C := Try.checked) own started (by kernel_rfl) Try.func4
    (ChangeSpec.witness6 (enc := enc) (C := Try.checked) false ⟨#[], #[.slice none 0 0, .int .i64 0, .int .u8 0], []⟩ 8 (by kernel_rfl) (by kernel_rfl) (by kernel_rfl) (by kernel_rfl)) ?_
  intro W base args ds gs before hval0 hW hcnd _
  have hval : ∀ (j : Nat) t v, Try.f4.params[j]? = some t → args[j]? = some v → Value.okWide Try.prog W .any base t v := hval0
  have hW' := hW
  obtain ⟨p, q, hA0, hV, rfl, hfz, hnd⟩ := hW
  have hA : DataW.TrodAll enc Try.prog W 0 (fun _ => true) true Try.f4.params.toList args.toList ds p := hA0
  rw [Try.params4] at hA hval
  obtain ⟨v0, vs0, d0, ds0, p0, q0, hargs, rfl, rfl, h0, r0⟩ := trodAll_cons hA
  obtain ⟨v1, vs1, d1, ds1, p1, q1, rfl, rfl, rfl, h1, r1⟩ := trodAll_cons r0
  obtain ⟨v2, vs2, d2, ds2, p2, q2, rfl, rfl, rfl, h2, r2⟩ := trodAll_cons r1
  obtain ⟨rfl, rfl, rfl⟩ := trodAll_nil r2
  obtain rfl : args = #[v0, v1, v2] := by cases args; simp_all
  obtain ⟨rfl, rfl⟩ := trodVars_none hV
  obtain ⟨a0, len0, cap0, rfl⟩ := okWide_slice Try.underlying22 (hval 0 22 v0 rfl rfl)
  have k0 := h0
  have lt0 : ∀ x ∈ p0, x.block < W.heap.size := by obtain ⟨m, hm⟩ := k0; exact DataW.trod_lt m _ _ _ hm
  obtain ⟨z0, w0⟩ : ∃ zs, IsRow .u8 W a0 len0 cap0 zs := by
    obtain ⟨fuel, hf⟩ := h0
    rcases open_ints Try.underlying22 Try.underlying5 (by kernel_rfl) hf with ⟨hcs, _⟩ | ⟨x, l, c, zs, hcs, _, hl, hm, hz, _, hcell, hwz⟩
    · simp [Value.cells] at hcs
      obtain ⟨rfl, rfl, rfl⟩ := hcs
      exact ⟨[], .inl ⟨rfl, rfl, rfl, rfl⟩⟩
    · simp [Value.cells] at hcs
      obtain ⟨rfl, rfl, rfl⟩ := hcs
      exact ⟨zs, .inr ⟨_, rfl, hl, hm, by simpa using hz, hcell, hwz⟩⟩
  obtain ⟨a1, rfl, rfl, rfl, w1⟩ := open_int Try.underlying3 (hval 1 3 v1 rfl rfl) h1
  obtain ⟨a2, rfl, rfl, rfl, w2⟩ := open_int Try.underlying5 (hval 2 5 v2 rfl rfl) h2
  clear hA0 hval0
  refine (walk a0 len0 cap0 z0 a1 a2 W w0 w1 w2).mono fun e W' ⟨he, bel⟩ => ?_
  subst he
  exact ⟨_, rfl, _, _, _, [], _, [], hW', trodAll_mk1 (shut_bool Try.underlying4 _), (trodAll_cons_mk (Below.trod laidOut (by kernel_rfl) (of_decide_eq_true (by kernel_rfl)) k0 bel lt0) (trodAll_cons_mk (shut_int Try.underlying3 w1) (trodAll_cons_mk (shut_int Try.underlying5 w2) trodAll_mk0))), rfl, bel.frame _, fun h => by cases h⟩

theorem over : Rows.utfAsciiRow.holds Try.pinned (OpenSpec.ofChange Rows.utfAsciiSpec) :=
  OpenClaim.holds_of_wide 4 Try.f4 rfl rfl rfl rfl rfl rfl rfl ⟨rfl, rfl, rfl, rfl, rfl⟩ rfl rfl rfl rfl rfl (by kernel_rfl) Try.func4 (by kernel_rfl)
    (of_decide_eq_true (by kernel_rfl)) (by unfold Func.isWrapper; first | (rw [if_pos (by decide +kernel)]; kernel_rfl) | (rw [if_neg (by decide +kernel)]; exact ⟨rfl, rfl⟩))
    (fun os started H enc _ => lifted os started H enc)

/-- THE STATEMENT -/
theorem proved : Rows.UtfAsciiSaid := over
#print axioms proved
end Go.Proofs.Ytpgbipkcjbhkdaa.utfAscii
