/- Contracts of table.unique at texts and at numbers: are no two the same? -/
import Derived.Test.YthikfifoomfjgaaGreatPAx0
import Derived.Test.YthikfifoomfjgaaGreatLib
import Derived.Test.YthikfifoomfjgaaGreatUniqPlain
import Derived.Maps.OwnOps
import Derived.StringKeys
namespace Go.Proofs.YthikfifoomfjgaaGreat.PA
open Go.RowKit Go.WideMaps Go.Maps Go.Proofs.YthikfifoomfjgaaGreatW.PrintWords Go.Proofs.YthikfifoomfjgaaGreatW.PrintLast Go.Proofs.YthikfifoomfjgaaGreatW.PrintMore
set_option linter.unusedVariables false
set_option linter.unusedSimpArgs false
theorem zero_int (w : World) : (zeroValue 3).run Tryz.prog w = .ok (.int .i64 0) w := by kernel_rfl
/-- An element of a row of scalars. -/
theorem scalar_at {α : Type} {enc : α → Value} {h1 : ∀ x, (enc x).oneCell' = true} {w : World} {A : Option Addr} {n : Nat} {xs : List α} (h : (Kd.scalar enc h1).C w A n xs) (k : Nat) (hk : k < xs.length) : ∃ ad, A = some ad ∧ w.cell? (ad.add k) = some (enc xs[k]) := by
  have hn : xs.length = n := h.1
  obtain ⟨ad, e, hc⟩ := h.2.2 (by omega)
  obtain ⟨cs, hl, hr, hcell⟩ := hc k xs[k] (List.getElem?_eq_getElem hk)
  have hr' : cs = [enc xs[k]] := hr
  subst hr'
  have := hcell 0 _ rfl
  simp only [Nat.add_zero] at this
  refine ⟨ad, e, ?_⟩
  have hs : (Kd.scalar enc h1).sz = 1 := rfl
  rwa [hs, Nat.mul_one] at this

theorem lawStr : Maps.Keyed Tryz.prog 9 := string_keyed Tryz.underlying9
/-- The key of an element. -/
def keyStr (x : ByteArray) : Lit := .string x.data.toList
theorem keyStr_fn : Uniq.KeyFn keyStr := ⟨fun x y h => by
  cases x; cases y
  simp [keyStr] at h
  cases h; rfl, fun _ => trivial⟩
set_option maxHeartbeats 4000000 in
set_option maxRecDepth 100000 in
theorem uniq_Str (A : Option Addr) (c : Nat) (l : List ByteArray) (w : World) (hC : Kd.string.C w A l.length l) (hs : ∀ x ∈ l, x.size ≤ maxLen) (hl : l.length ≤ 1000000) :
    Calls Tryz.prog 70 #[.slice A l.length c] w fun e w' => e = .returned (.bool (decide l.Nodup)) ∧ Below w.heap.size w w' := by
  have hmm := @run_makeMap Tryz.prog
  have HC := Lib.hid hC
  have HS := Lib.hid hs
  clear hC hs
  go_enter Tryz.func70, Tryz.ntmps70
  go_wp2
  go_loopw [11] (fun i wr => ∃ (k : Nat) (D : DataW Unit), k ≤ l.length ∧ i = .int .i64 k ∧ Aside0 (wr.ownsMap Tryz.prog 9 (plainElem Tryz.prog 3) w.heap.size k D) ∧ Aside0 (Uniq.Cnt keyStr (l.take k) D) ∧ Aside0 (Below w.heap.size w wr)) (fun i _ => l.length - (intOf i).toNat)
  case atStart => exact ⟨0, .map [], Nat.zero_le _, rfl, ⟨World.ownsMap_made _ _ _ _⟩, ⟨by rw [List.take_zero]; exact Uniq.Cnt.nil _⟩, ⟨(Below.refl _ _).alloc (Nat.le_refl _) _⟩⟩
  case round =>
    obtain ⟨k, D, hk, rfl, hown, hcnt, hb⟩ := hrel
    by_cases hlt : k < l.length
    · obtain ⟨ad, rfl, hcell⟩ := scalar_at (Kd.C_below HC.out hb.out) k hlt
      have hcl : Uniq.cnt (l.take k) l[k] ≤ k := Nat.le_trans (Uniq.cnt_le _ _) (List.length_take_le _ _)
      have HN := Aside0.mk (Uniq.Cnt.snoc keyStr_fn hcnt.out hown.out.isMap l[k])
      rw [← List.take_succ_eq_append_getElem hlt] at HN
      have HA := Aside0.mk (hcnt.out.2.1 l[k])
      have hkey : Aside0 (Go.keyOf Tryz.prog 9 (.string l[k]) = some (keyStr l[k])) := ⟨keyOf_string_mk Tryz.underlying9 (HS.out _ (List.getElem_mem hlt))⟩
      generalize Uniq.cnt (l.take k) l[k] = n at *
      generalize l[k] = x at *
      go_wp2_with (first
        | (at_lookup; refine wpList_lookup_own_int _ rfl _ _ 88 rfl 9 3 .i64 lawStr Tryz.underlying88 Tryz.underlying3 (zero_int _) w.heap.size k _ rfl hown.out _ _ rfl hkey.out ?_; intro c hat hwc; obtain rfl : c = n := Uniq.num_inj hat HA.out; clear hat hwc)
        | (at_mapUpdate; refine wpList_mapUpdate_own _ rfl _ _ _ 88 rfl 9 3 lawStr Tryz.underlying88 _ w.heap.size k _ rfl hown.out (by unfold maxLen; omega) _ _ _ rfl rfl hkey.out (Uniq.num (n + 1)) [] (plainElem_int Tryz.underlying3 (WalkArith.wf_i64 (by omega))) ?_; intro w1 hown1 hgrow1; have HO1 := Aside0.mk hown1; have HB1 := Aside0.mk (hb.out.grown hgrow1 hb.out.size (fun j hj => by cases hj; exact Nat.le_refl _)); clear hown1 hgrow1))
      go_roundw
      case rel => exact ⟨k + 1, _, by omega, by go_num, HO1, HN, HB1⟩
      case measure => simp [intOf]; omega
    · have hkl : k = l.length := by omega
      subst hkl
      rw [List.take_length] at hcnt
      have HL0 := Aside0.mk (Uniq.Cnt.left hcnt.out)
      clear hcnt
      go_wp2
      go_loopw [22] (fun i wr => ∃ (k : Nat) (D : DataW Unit), k ≤ l.length ∧ i = .int .i64 k ∧ Aside0 (wr.ownsMap Tryz.prog 9 (plainElem Tryz.prog 3) w.heap.size l.length D) ∧ Aside0 (Uniq.Left keyStr l k D) ∧ Aside0 (Below w.heap.size w wr)) (fun i _ => l.length - (intOf i).toNat)
      case atStart => exact ⟨0, D, Nat.zero_le _, rfl, hown, HL0, hb⟩
      case round =>
        clear hown HL0 hb hk hlt
        obtain ⟨k, D, hk, rfl, hown, hleft, hb⟩ := hrel
        by_cases hlt : k < l.length
        · obtain ⟨ad, rfl, hcell⟩ := scalar_at (Kd.C_below HC.out hb.out) k hlt
          have HA := Aside0.mk (hleft.out.here hlt)
          have hkey : Aside0 (Go.keyOf Tryz.prog 9 (.string l[k]) = some (keyStr l[k])) := ⟨keyOf_string_mk Tryz.underlying9 (HS.out _ (List.getElem_mem hlt))⟩
          by_cases hone : Uniq.cnt l l[k] = 1
          · have HN := Aside0.mk (hleft.out.strike keyStr_fn hlt hone)
            rw [hone] at HA
            clear hone hleft
            generalize l[k] = x at *
            go_wp2_with (first
              | (at_lookup; refine wpList_lookup_own_int _ rfl _ _ 88 rfl 9 3 .i64 lawStr Tryz.underlying88 Tryz.underlying3 (zero_int _) w.heap.size l.length _ rfl hown.out _ _ rfl hkey.out ?_; intro c hat hwc; obtain rfl : c = ((1 : Nat) : Int) := Uniq.num_inj hat HA.out; clear hat hwc)
              | (at_delete; refine wpList_delete_own _ rfl _ _ 88 9 rfl 3 lawStr Tryz.underlying88 _ w.heap.size l.length D rfl hown.out _ _ rfl hkey.out ?_; intro w1 hown1 hturn1; have HO1 := Aside0.mk hown1; have HB1 := Aside0.mk (hb.out.grown hturn1.grown hb.out.size (fun j hj => by cases hj; exact Nat.le_refl _)); clear hown1 hturn1))
            go_roundw
            case rel => exact ⟨k + 1, _, by omega, by go_num, HO1, HN, HB1⟩
            case measure => simp [intOf]; omega
          · have HN := Aside0.mk (hleft.out.keep hlt hone)
            have hne : (((Uniq.cnt l l[k] : Nat) : Int) == 1) = false := by simp; omega
            clear hone hleft
            generalize Uniq.cnt l l[k] = n at *
            generalize l[k] = x at *
            go_wp2_with (first
              | (at_lookup; refine wpList_lookup_own_int _ rfl _ _ 88 rfl 9 3 .i64 lawStr Tryz.underlying88 Tryz.underlying3 (zero_int _) w.heap.size l.length _ rfl hown.out _ _ rfl hkey.out ?_; intro c hat hwc; obtain rfl : c = n := Uniq.num_inj hat HA.out; clear hat hwc))
            go_roundw
            case rel => exact ⟨k + 1, _, by omega, by go_num, hown, HN, hb⟩
            case measure => simp [intOf]; omega
        · have hkl : k = l.length := by omega
          subst hkl
          have hz : ((Maps.size D : Int) == 0) = decide l.Nodup := by
            rw [Bool.eq_iff_iff]
            simp only [beq_iff_eq, decide_eq_true_eq]
            rw [← hleft.out.ended (Uniq.size_zero (hown.out.canon lawStr))]
            omega
          have HZ := Lib.hid hz
          clear hz hleft
          go_wp2_with (at_len; refine wpList_len_own _ rfl _ 88 rfl 9 3 Tryz.underlying88 _ w.heap.size l.length D rfl hown.out ?_)
          go_ret
          exact ⟨by rw [HZ.out]; rfl, hb.out⟩

theorem lawInt : Maps.Keyed Tryz.prog 2 := int_keyed Tryz.underlying2
/-- The key of an element. -/
def keyInt (x : Int) : Lit := .int .i64 x
theorem keyInt_fn : Uniq.KeyFn keyInt := ⟨fun x y h => by simpa [keyInt] using h, fun _ => trivial⟩
set_option maxHeartbeats 4000000 in
set_option maxRecDepth 100000 in
theorem uniq_Int (A : Option Addr) (c : Nat) (l : List Int) (w : World) (hC : (Kd.int .i64).C w A l.length l) (hs : ∀ x ∈ l, (Lit.int .i64 x).wf = true) (hl : l.length ≤ 1000000) :
    Calls Tryz.prog 105 #[.slice A l.length c] w fun e w' => e = .returned (.bool (decide l.Nodup)) ∧ Below w.heap.size w w' := by
  have hmm := @run_makeMap Tryz.prog
  have HC := Lib.hid hC
  have HS := Lib.hid hs
  clear hC hs
  go_enter Tryz.func105, Tryz.ntmps105
  go_wp2
  go_loopw [11] (fun i wr => ∃ (k : Nat) (D : DataW Unit), k ≤ l.length ∧ i = .int .i64 k ∧ Aside0 (wr.ownsMap Tryz.prog 2 (plainElem Tryz.prog 3) w.heap.size k D) ∧ Aside0 (Uniq.Cnt keyInt (l.take k) D) ∧ Aside0 (Below w.heap.size w wr)) (fun i _ => l.length - (intOf i).toNat)
  case atStart => exact ⟨0, .map [], Nat.zero_le _, rfl, ⟨World.ownsMap_made _ _ _ _⟩, ⟨by rw [List.take_zero]; exact Uniq.Cnt.nil _⟩, ⟨(Below.refl _ _).alloc (Nat.le_refl _) _⟩⟩
  case round =>
    obtain ⟨k, D, hk, rfl, hown, hcnt, hb⟩ := hrel
    by_cases hlt : k < l.length
    · obtain ⟨ad, rfl, hcell⟩ := scalar_at (Kd.C_below HC.out hb.out) k hlt
      have hcl : Uniq.cnt (l.take k) l[k] ≤ k := Nat.le_trans (Uniq.cnt_le _ _) (List.length_take_le _ _)
      have HN := Aside0.mk (Uniq.Cnt.snoc keyInt_fn hcnt.out hown.out.isMap l[k])
      rw [← List.take_succ_eq_append_getElem hlt] at HN
      have HA := Aside0.mk (hcnt.out.2.1 l[k])
      have hkey : Aside0 (Go.keyOf Tryz.prog 2 (.int .i64 l[k]) = some (keyInt l[k])) := ⟨keyOf_int_mk Tryz.underlying2 (HS.out _ (List.getElem_mem hlt))⟩
      generalize Uniq.cnt (l.take k) l[k] = n at *
      generalize l[k] = x at *
      go_wp2_with (first
        | (at_lookup; refine wpList_lookup_own_int _ rfl _ _ 157 rfl 2 3 .i64 lawInt Tryz.underlying157 Tryz.underlying3 (zero_int _) w.heap.size k _ rfl hown.out _ _ rfl hkey.out ?_; intro c hat hwc; obtain rfl : c = n := Uniq.num_inj hat HA.out; clear hat hwc)
        | (at_mapUpdate; refine wpList_mapUpdate_own _ rfl _ _ _ 157 rfl 2 3 lawInt Tryz.underlying157 _ w.heap.size k _ rfl hown.out (by unfold maxLen; omega) _ _ _ rfl rfl hkey.out (Uniq.num (n + 1)) [] (plainElem_int Tryz.underlying3 (WalkArith.wf_i64 (by omega))) ?_; intro w1 hown1 hgrow1; have HO1 := Aside0.mk hown1; have HB1 := Aside0.mk (hb.out.grown hgrow1 hb.out.size (fun j hj => by cases hj; exact Nat.le_refl _)); clear hown1 hgrow1))
      go_roundw
      case rel => exact ⟨k + 1, _, by omega, by go_num, HO1, HN, HB1⟩
      case measure => simp [intOf]; omega
    · have hkl : k = l.length := by omega
      subst hkl
      rw [List.take_length] at hcnt
      have HL0 := Aside0.mk (Uniq.Cnt.left hcnt.out)
      clear hcnt
      go_wp2
      go_loopw [22] (fun i wr => ∃ (k : Nat) (D : DataW Unit), k ≤ l.length ∧ i = .int .i64 k ∧ Aside0 (wr.ownsMap Tryz.prog 2 (plainElem Tryz.prog 3) w.heap.size l.length D) ∧ Aside0 (Uniq.Left keyInt l k D) ∧ Aside0 (Below w.heap.size w wr)) (fun i _ => l.length - (intOf i).toNat)
      case atStart => exact ⟨0, D, Nat.zero_le _, rfl, hown, HL0, hb⟩
      case round =>
        clear hown HL0 hb hk hlt
        obtain ⟨k, D, hk, rfl, hown, hleft, hb⟩ := hrel
        by_cases hlt : k < l.length
        · obtain ⟨ad, rfl, hcell⟩ := scalar_at (Kd.C_below HC.out hb.out) k hlt
          have HA := Aside0.mk (hleft.out.here hlt)
          have hkey : Aside0 (Go.keyOf Tryz.prog 2 (.int .i64 l[k]) = some (keyInt l[k])) := ⟨keyOf_int_mk Tryz.underlying2 (HS.out _ (List.getElem_mem hlt))⟩
          by_cases hone : Uniq.cnt l l[k] = 1
          · have HN := Aside0.mk (hleft.out.strike keyInt_fn hlt hone)
            rw [hone] at HA
            clear hone hleft
            generalize l[k] = x at *
            go_wp2_with (first
              | (at_lookup; refine wpList_lookup_own_int _ rfl _ _ 157 rfl 2 3 .i64 lawInt Tryz.underlying157 Tryz.underlying3 (zero_int _) w.heap.size l.length _ rfl hown.out _ _ rfl hkey.out ?_; intro c hat hwc; obtain rfl : c = ((1 : Nat) : Int) := Uniq.num_inj hat HA.out; clear hat hwc)
              | (at_delete; refine wpList_delete_own _ rfl _ _ 157 2 rfl 3 lawInt Tryz.underlying157 _ w.heap.size l.length D rfl hown.out _ _ rfl hkey.out ?_; intro w1 hown1 hturn1; have HO1 := Aside0.mk hown1; have HB1 := Aside0.mk (hb.out.grown hturn1.grown hb.out.size (fun j hj => by cases hj; exact Nat.le_refl _)); clear hown1 hturn1))
            go_roundw
            case rel => exact ⟨k + 1, _, by omega, by go_num, HO1, HN, HB1⟩
            case measure => simp [intOf]; omega
          · have HN := Aside0.mk (hleft.out.keep hlt hone)
            have hne : (((Uniq.cnt l l[k] : Nat) : Int) == 1) = false := by simp; omega
            clear hone hleft
            generalize Uniq.cnt l l[k] = n at *
            generalize l[k] = x at *
            go_wp2_with (first
              | (at_lookup; refine wpList_lookup_own_int _ rfl _ _ 157 rfl 2 3 .i64 lawInt Tryz.underlying157 Tryz.underlying3 (zero_int _) w.heap.size l.length _ rfl hown.out _ _ rfl hkey.out ?_; intro c hat hwc; obtain rfl : c = n := Uniq.num_inj hat HA.out; clear hat hwc))
            go_roundw
            case rel => exact ⟨k + 1, _, by omega, by go_num, hown, HN, hb⟩
            case measure => simp [intOf]; omega
        · have hkl : k = l.length := by omega
          subst hkl
          have hz : ((Maps.size D : Int) == 0) = decide l.Nodup := by
            rw [Bool.eq_iff_iff]
            simp only [beq_iff_eq, decide_eq_true_eq]
            rw [← hleft.out.ended (Uniq.size_zero (hown.out.canon lawInt))]
            omega
          have HZ := Lib.hid hz
          clear hz hleft
          go_wp2_with (at_len; refine wpList_len_own _ rfl _ 157 rfl 2 3 Tryz.underlying157 _ w.heap.size l.length D rfl hown.out ?_)
          go_ret
          exact ⟨by rw [HZ.out]; rfl, hb.out⟩
end Go.Proofs.YthikfifoomfjgaaGreat.PA
