/- Contract of typed's checker.val. Contracts of typed's checker.each and checker.slot. Contract of typed's checker.msg. -/
import Derived.Test.YthikfifoomfjgaaGreatTyP10
import Derived.Deep.RegionHeld3
import Derived.BigRegion
namespace Go.Proofs.YthikfifoomfjgaaGreat
open Go.RowKit Go.Tr Go.WideMaps Go.Maps Go.Proofs.YthikfifoomfjgaaGreat.PA Go.Proofs.YthikfifoomfjgaaGreatW.PrintWords Go.Proofs.YthikfifoomfjgaaGreatW.PrintLast Go.Proofs.YthikfifoomfjgaaGreatW.PrintMore
set_option maxRecDepth 100000
set_option linter.unusedVariables false
set_option linter.unusedSimpArgs false
def MsgC (S : Sch) (n L : Nat) : Prop := ∀ (w : World) (cs : List Value) (x : Msg) (m : Int), S.At w → RMsg L 0 w n cs x → Calls Tryz.prog 36 #[.agg S.cells, .int .i64 m, .agg cs.toArray] w fun e w' => e = .returned (.bool (msgOk S n m x)) ∧ Below w.heap.size w w'
theorem size_empty {s : ByteArray} (h : s.size = 0) : s = ⟨#[]⟩ := by
  obtain ⟨d⟩ := s
  have : d.size = 0 := h
  rw [Array.size_eq_zero_iff] at this
  rw [this]
theorem toList_ne {s : ByteArray} (h : s.size ≠ 0) : s.toList ≠ [] := by
  rw [Lib.toList_data]
  intro e
  exact h (by rw [show s.size = s.data.toList.length from Array.length_toList.symm, e]; rfl)
theorem keep6 {w w' : World} {p0 p1 p2 p3 p4 p5 : Addr} {v0 v1 v2 v3 v4 v5 : Value} {K : Nat} (b : Below K w w') (hK : K = w.heap.size) (h : w.cell? p0 = some v0 ∧ w.cell? p1 = some v1 ∧ w.cell? p2 = some v2 ∧ w.cell? p3 = some v3 ∧ w.cell? p4 = some v4 ∧ w.cell? p5 = some v5) :
    w'.cell? p0 = some v0 ∧ w'.cell? p1 = some v1 ∧ w'.cell? p2 = some v2 ∧ w'.cell? p3 = some v3 ∧ w'.cell? p4 = some v4 ∧ w'.cell? p5 = some v5 := by
  subst hK
  obtain ⟨h0, h1, h2, h3, h4, h5⟩ := h
  exact ⟨(b.cell (block_lt_of_cell h0)).trans h0, (b.cell (block_lt_of_cell h1)).trans h1, (b.cell (block_lt_of_cell h2)).trans h2, (b.cell (block_lt_of_cell h3)).trans h3, (b.cell (block_lt_of_cell h4)).trans h4, (b.cell (block_lt_of_cell h5)).trans h5⟩
set_option maxHeartbeats 4000000 in
theorem ty_val_sub (S : Sch) (n L : Nat) (hm : MsgC S n L) (w : World) (hS : S.At w) (ref : Int) (cs : List Value) (x : Val) (hx : RVal L 0 w (RMsg L 0 w n) cs x) :
    Calls Tryz.prog 43 #[.agg S.cells, .int .i64 9, .int .i64 ref, .agg cs.toArray] w fun e w' => e = .returned (.bool (valOk (msgOk S n) 9 ref x)) ∧ Below w.heap.size w w' := by
  obtain ⟨c, rfl, hn1, hn2, hs, h4⟩ := hx
  have H4 := Lib.hid h4
  obtain ⟨a1, cap1, rfl, q0, q1, q2, -, -⟩ := h4
  have HM := Lib.hid hm
  have HS := Lib.hid hS
  clear hm hS
  unfold Sch.cells
  by_cases h0 : x.n = 0
  · have d0 : ((x.n : Int) == 0) = true := by simpa using h0
    by_cases h1 : x.s.size = 0
    · have hse := size_empty h1
      by_cases h2 : x.m.length = 1
      · have d2 : ((x.m.length : Int) == 1) = true := by simp; omega
        obtain ⟨y, hy⟩ : ∃ y, x.m = [y] := by
          cases hxm : x.m with
          | nil => rw [hxm] at h2; simp at h2
          | cons y l => cases l with
            | nil => exact ⟨y, rfl⟩
            | cons z l => rw [hxm] at h2; simp at h2
        have HR := Lib.hid (show valOk (msgOk S n) 9 ref x = msgOk S n ref y by
          unfold valOk
          rw [if_pos rfl, hy]
          simp [h0, h1])
        obtain ⟨bz, oz, cz, e3, -, s0, t0, rz⟩ := H4.out.get1 (R := fun w => RMsg L 0 w n) (rmsg_one L 0 n) 0 (by omega)
        have hyz : x.m[0] = y := by simp [hy]
        rw [hyz] at rz
        cases e3
        rw [Nat.add_zero] at s0
        have HC := Lib.hid (fun w' (hb : Below w.heap.size w w') => HM.out w' [cz] y ref (HS.out.below hb) (RMsg.below hb n rz))
        have P0 := Lib.hid s0
        unfold Sch.cells at HC
        clear H4 rz hyz hy HM HS s0
        rw [hse]
        go_enter Tryz.func43, Tryz.ntmps43
        go_upto_region 2 with fail
        have HB := Lib.hid (al2 w (.cells #[.slice S.A0 S.M.length S.c0, .slice S.A1 S.E.length S.c1] 62) (.cells #[.int .i64 0, .string ⟨#[]⟩, .slice (some ⟨bz, oz, none⟩) 1 cap1] 39))
        have s0 := (HB.out.cell (block_lt_of_cell P0.out)).trans P0.out
        have bl := block_lt_of_cell s0
        have cells : ∀ W : World, W = (w.alloc (.cells #[.slice S.A0 S.M.length S.c0, .slice S.A1 S.E.length S.c1] 62)).alloc (.cells #[.int .i64 0, .string ⟨#[]⟩, .slice (some ⟨bz, oz, none⟩) 1 cap1] 39) →
            W.cell? ⟨w.heap.size, 0, none⟩ = some (.slice S.A0 S.M.length S.c0) ∧ W.cell? ⟨w.heap.size, 1, none⟩ = some (.slice S.A1 S.E.length S.c1) ∧ W.cell? ⟨w.heap.size + 1, 0, none⟩ = some (.int .i64 0) ∧ W.cell? ⟨w.heap.size + 1, 1, none⟩ = some (.string ⟨#[]⟩) ∧ W.cell? ⟨w.heap.size + 1, 2, none⟩ = some (.slice (some ⟨bz, oz, none⟩) 1 cap1) ∧ W.cell? ⟨bz, oz, none⟩ = some cz := by
          rintro W rfl
          refine ⟨?_, ?_, ?_, ?_, ?_, s0⟩ <;> simp [go_sem]
        have HCELLS := Lib.hid (cells _ rfl)
        clear cells s0 bl
        generalize (w.alloc (.cells #[.slice S.A0 S.M.length S.c0, .slice S.A1 S.E.length S.c1] 62)).alloc (.cells #[.int .i64 0, .string ⟨#[]⟩, .slice (some ⟨bz, oz, none⟩) 1 cap1] 39) = W at *
        have hs0 := HCELLS.out
        obtain ⟨k0, k1, k2, k3, k4, k5⟩ := HCELLS.out
        have l0 := block_lt_of_cell k0
        have l1 := block_lt_of_cell k2
        have l2 := block_lt_of_cell k5
        have hk := hs0
        go_region_held3 (fun w' => w'.cell? ⟨w.heap.size, 0, none⟩ = some (.slice S.A0 S.M.length S.c0) ∧ w'.cell? ⟨w.heap.size, 1, none⟩ = some (.slice S.A1 S.E.length S.c1) ∧ w'.cell? ⟨w.heap.size + 1, 0, none⟩ = some (.int .i64 0) ∧ w'.cell? ⟨w.heap.size + 1, 1, none⟩ = some (.string ⟨#[]⟩) ∧ w'.cell? ⟨w.heap.size + 1, 2, none⟩ = some (.slice (some ⟨bz, oz, none⟩) 1 cap1) ∧ w'.cell? ⟨bz, oz, none⟩ = some cz)
          (first | exact hk | (go_keep; done))
          (first | (go_at_call 36; (with_reducible refine (HC.out _ ?_).mono ?_); (exact HB.out.drew); rintro e y1 ⟨rfl, g1⟩; (have D1 := Lib.hid ((Below.refl W.heap.size W).drew.nx g1)); clear hk; (have hk := keep6 D1.out rfl hs0); clear g1))
        all_goals (
          go_wp2_with fail
          exact ⟨rfl, _, results_tmp (t := 8) rfl _ _ _, by rw [HR.out]; rfl, HB.out.nx D1.out⟩)
      · have d2 : ((x.m.length : Int) == 1) = false := by simp; omega
        have HR := Lib.hid (show valOk (msgOk S n) 9 ref x = false by
          unfold valOk
          rw [if_pos rfl]
          cases hxm : x.m with
          | nil => simp
          | cons y l =>
            cases l with
            | nil => exact absurd (by rw [hxm]; rfl) h2
            | cons z l => simp)
        rw [hse]
        clear H4
        go_enter Tryz.func43, Tryz.ntmps43
        go_upto_region 2 with fail
        go_quiet (fail)
        go_wp2
        exact ⟨rfl, _, results_tmp (t := 8) rfl _ _ _, by rw [HR.out]; rfl, below_drewN (al2 _ _ _) _⟩
    · have HR := Lib.hid (show valOk (msgOk S n) 9 ref x = false by
        unfold valOk
        rw [if_pos rfl]
        simp [h1])
      have hse := toList_ne h1
      have hse2 : (x.s.toList == []) = false := by simpa using hse
      have hse3 : decide (x.s.toList = []) = false := by simpa using hse
      clear H4
      go_enter Tryz.func43, Tryz.ntmps43
      go_upto_region 2 with fail
      go_quiet (fail)
      go_wp2
      exact ⟨rfl, _, results_tmp (t := 8) rfl _ _ _, by rw [HR.out]; rfl, below_drewN (al2 _ _ _) _⟩
  · have d0 : ((x.n : Int) == 0) = false := by simpa using h0
    have HR := Lib.hid (show valOk (msgOk S n) 9 ref x = false by
      unfold valOk
      rw [if_pos rfl]
      simp [h0])
    clear H4
    go_enter Tryz.func43, Tryz.ntmps43
    go_upto_region 2 with fail
    go_quiet (fail)
    go_wp2
    exact ⟨rfl, _, results_tmp (t := 8) rfl _ _ _, by rw [HR.out]; rfl, below_drewN (al2 _ _ _) _⟩
theorem bytesL_length (s : ByteArray) : (bytesL s).length = s.size := by
  unfold bytesL
  rw [List.length_map, Array.length_toList]; rfl
theorem bytesL_byte (s : ByteArray) : isBytes (bytesL s) = decide (s.size ≤ 140737488355328) := by
  have h1 : (bytesL s).all (fun n => decide (0 ≤ n) && decide (n ≤ 255)) = true := by
    rw [List.all_eq_true]
    intro n hn
    obtain ⟨b, -, rfl⟩ := List.mem_map.1 hn
    have := b.toNat_lt
    simp; omega
  unfold isBytes
  rw [h1, bytesL_length]; simp
theorem bytes_C (W : World) (s : ByteArray) (hs : s.size ≤ 140737488355328) : Kd.C (Kd.int .u8) (Lib.bytesWorld W 5 s) (some ⟨W.heap.size, 0, none⟩) (bytesL s).length (bytesL s) := by
  refine ⟨rfl, by rw [bytesL_length]; omega, fun _ => ⟨_, rfl, fun j p hp => ⟨[.int .u8 p], rfl, rfl, fun i u hu => ?_⟩⟩⟩
  have hi : i = 0 := by have := (List.getElem?_eq_some_iff.1 hu).1; simp at this; omega
  subst hi
  have hj : j < s.data.toList.length := by have := (List.getElem?_eq_some_iff.1 hp).1; unfold bytesL at this; simpa using this
  have hj2 : j < s.size := by rw [Array.length_toList] at hj; exact hj
  have e : (⟨W.heap.size, 0, none⟩ : Addr).add (j * (Kd.int .u8).sz + 0) = ⟨W.heap.size, j, none⟩ := by
    rw [show (Kd.int .u8).sz = 1 from rfl, add_none]; simp
  rw [e, Lib.bytesWorld_cell W _ s j hj2]
  unfold bytesL at hp
  simp only [List.getElem?_map, List.getElem?_eq_getElem hj, Option.map_some, Option.some.injEq] at hp
  simp only [List.getElem?_cons_zero, Option.some.injEq] at hu
  rw [← hu, ← hp, List.getD_eq_getElem?_getD, List.getElem?_eq_getElem hj]; rfl
theorem bytes_below10 (W : World) (s : ByteArray) : Below W.heap.size W (Lib.bytesWorld W 5 s) :=
  ⟨rfl, rfl, rfl, by rw [Lib.bytesWorld_size]; omega, fun i hi => Lib.bytesWorld_at_old W _ s i (by omega)⟩
theorem fine_calls (W : World) (s : ByteArray) (hs : s.size ≤ 140737488355328) :
    Calls Tryz.prog 83 #[.slice (some ⟨W.heap.size, 0, none⟩) s.size (grownCap W s.size 0 5), .int .i64 0, .int .i64 s.size] (Lib.bytesWorld W 5 s) fun e w' => e = .returned (.bool (fineS s)) ∧ Below W.heap.size W w' := by
  have h := utf_Fine.calls (some ⟨W.heap.size, 0, none⟩) (grownCap W s.size 0 5) (bytesL s) 0 s.size (fineS s) (Lib.bytesWorld W 5 s) (bytes_C W s hs) (by rw [bytesL_length]; exact grownCap_ge _ _ _ _) (by
    unfold utf_Fine.f
    rw [bytesL_byte, decide_eq_true hs, if_pos rfl]; rfl)
  rw [bytesL_length] at h
  refine h.mono ?_
  rintro e w' ⟨rfl, b⟩
  exact ⟨rfl, (bytes_below10 W s).nx b⟩
set_option maxHeartbeats 4000000 in
theorem ty_val_other (S : Sch) (mo : Int → Msg → Bool) (n L : Nat) (w : World) (kind ref : Int) (hk9 : kind ≠ 9) (cs : List Value) (x : Val) (hx : RVal L 0 w (RMsg L 0 w n) cs x) :
    Calls Tryz.prog 43 #[.agg S.cells, .int .i64 kind, .int .i64 ref, .agg cs.toArray] w fun e w' => e = .returned (.bool (valOk mo kind ref x)) ∧ Below w.heap.size w w' := by
  obtain ⟨c, rfl, hn1, hn2, hs, h4⟩ := hx
  obtain ⟨a1, cap1, rfl, q0, q1, q2, -, -⟩ := h4
  have HS := Lib.hid hs
  clear hs
  unfold Sch.cells
  have g9 : ((kind : Int) == 9) = false := by simpa using hk9
  by_cases hm0 : x.m = []
  · have hml : x.m.length = 0 := by rw [hm0]; rfl
    have gm : decide ((x.m.length : Int) > 0) = false := decide_eq_false (by omega)
    by_cases h7 : kind = 7
    · subst h7
      by_cases h0 : x.n = 0
      · have d0 : ((x.n : Int) == 0) = true := by simpa using h0
        have HR := Lib.hid (show valOk mo 7 ref x = fineS x.s by unfold valOk; simp [hm0, h0])
        have kb := fun W => Lib.run_convert_string_bytes (P := Tryz.prog) W 9 107 5 x.s Tryz.underlying9 Tryz.underlying107 Tryz.underlying5
        have hf := fine_calls ((w.alloc (.cells #[.slice S.A0 S.M.length S.c0, .slice S.A1 S.E.length S.c1] 62)).alloc (.cells #[.int .i64 x.n, .string x.s, .slice a1 0 cap1] 39)) x.s HS.out
        rw [show ((w.alloc (.cells #[.slice S.A0 S.M.length S.c0, .slice S.A1 S.E.length S.c1] 62)).alloc (.cells #[.int .i64 x.n, .string x.s, .slice a1 0 cap1] 39)).heap.size = w.heap.size + 1 + 1 by simp] at hf
        have HF := Lib.hid hf
        clear hf
        have kc : (Lib.bytesWorld ((w.alloc (.cells #[.slice S.A0 S.M.length S.c0, .slice S.A1 S.E.length S.c1] 62)).alloc (.cells #[.int .i64 x.n, .string x.s, .slice a1 0 cap1] 39)) 5 x.s).cell? ⟨w.heap.size + 1, 1, none⟩ = some (.string x.s) := (Lib.bytesWorld_old _ _ _ _ (by simp)).trans (by simp [go_sem])
        have kl : w.heap.size + 1 < (Lib.bytesWorld ((w.alloc (.cells #[.slice S.A0 S.M.length S.c0, .slice S.A1 S.E.length S.c1] 62)).alloc (.cells #[.int .i64 x.n, .string x.s, .slice a1 0 cap1] 39)) 5 x.s).heap.size := by rw [Lib.bytesWorld_size]; simp
        clear hm0 h0
        go_enter Tryz.func43, Tryz.ntmps43
        go_wp2_with (go_at_call 83; (with_reducible refine HF.out.mono ?_); rintro e w1 ⟨rfl, b1⟩)
        exact ⟨rfl, _, results_tmp (t := 8) rfl _ _ _, by rw [HR.out]; rfl, (al2 w (.cells #[.slice S.A0 S.M.length S.c0, .slice S.A1 S.E.length S.c1] 62) (.cells #[.int .i64 x.n, .string x.s, .slice a1 0 cap1] 39)).nx (by rw [show ((w.alloc (.cells #[.slice S.A0 S.M.length S.c0, .slice S.A1 S.E.length S.c1] 62)).alloc (.cells #[.int .i64 x.n, .string x.s, .slice a1 0 cap1] 39)).heap.size = w.heap.size + 1 + 1 by simp]; exact b1)⟩
      · have d0 : ((x.n : Int) == 0) = false := by simpa using h0
        have HR := Lib.hid (show valOk mo 7 ref x = false by unfold valOk; simp [hm0, h0])
        clear hm0
        go_enter Tryz.func43, Tryz.ntmps43
        go_wp2
        exact ⟨rfl, _, results_tmp (t := 8) rfl _ _ _, by rw [HR.out]; rfl, al2 _ _ _⟩
    · have g7 : ((kind : Int) == 7) = false := by simpa using h7
      have g7' : ((kind : Int) != 7) = true := by simpa using h7
      by_cases h8 : kind = 8
      · subst h8
        have HR := Lib.hid (show valOk mo 8 ref x = (x.n == 0) by unfold valOk; simp [hm0])
        clear hm0
        go_enter Tryz.func43, Tryz.ntmps43
        go_wp2
        exact ⟨rfl, _, results_tmp (t := 8) rfl _ _ _, by rw [HR.out]; rfl, al2 _ _ _⟩
      · have g8 : ((kind : Int) == 8) = false := by simpa using h8
        have g8' : ((kind : Int) != 8) = true := by simpa using h8
        by_cases h1 : x.s.size = 0
        · have hse := size_empty h1
          have HR := Lib.hid (show valOk mo kind ref x = fitsB kind x.n by unfold valOk; simp [hm0, hk9, h7, h8, h1])
          have HF := Lib.hid fun W => conv_Fits.calls kind x.n (fitsB kind x.n) W (by unfold conv_Fits.f isI64; rw [if_pos (by simp; omega)])
          clear hm0
          rw [hse]
          generalize fitsB kind x.n = q at *
          go_enter Tryz.func43, Tryz.ntmps43
          cases q with
          | false =>
            go_wp2_with (go_at_call 82; (with_reducible refine (HF.out _).mono ?_); rintro e w1 ⟨rfl, b1⟩)
            exact ⟨rfl, _, results_tmp (t := 8) rfl _ _ _, by rw [HR.out]; rfl, (al2 _ _ _).nx b1⟩
          | true =>
            go_wp2_with (go_at_call 82; (with_reducible refine (HF.out _).mono ?_); rintro e w1 ⟨rfl, b1⟩)
            exact ⟨rfl, _, results_tmp (t := 8) rfl _ _ _, by rw [HR.out]; rfl, (al2 _ _ _).nx b1⟩
        · have hse := toList_ne h1
          have hse2 : (x.s.toList == []) = false := by simpa using hse
          have HR := Lib.hid (show valOk mo kind ref x = false by unfold valOk; simp [hm0, hk9, h7, h8, h1])
          clear hm0
          go_enter Tryz.func43, Tryz.ntmps43
          go_wp2
          exact ⟨rfl, _, results_tmp (t := 8) rfl _ _ _, by rw [HR.out]; rfl, al2 _ _ _⟩
  · have hml : 0 < x.m.length := List.length_pos_iff.2 hm0
    have gm : decide ((x.m.length : Int) > 0) = true := decide_eq_true (by omega)
    have HR := Lib.hid (show valOk mo kind ref x = false by unfold valOk; simp [hm0, hk9])
    clear hm0
    go_enter Tryz.func43, Tryz.ntmps43
    go_wp2
    exact ⟨rfl, _, results_tmp (t := 8) rfl _ _ _, by rw [HR.out]; rfl, al2 _ _ _⟩
/-- (checker).val. -/
theorem ty_val (S : Sch) (n L : Nat) (hm : MsgC S n L) (w : World) (hS : S.At w) (kind ref : Int) (cs : List Value) (x : Val) (hx : RVal L 0 w (RMsg L 0 w n) cs x) :
    Calls Tryz.prog 43 #[.agg S.cells, .int .i64 kind, .int .i64 ref, .agg cs.toArray] w fun e w' => e = .returned (.bool (valOk (msgOk S n) kind ref x)) ∧ Below w.heap.size w w' := by
  by_cases h : kind = 9
  · subst h; exact ty_val_sub S n L hm w hS ref cs x hx
  · exact ty_val_other S _ n L w kind ref h cs x hx
end Go.Proofs.YthikfifoomfjgaaGreat
namespace Go.Proofs.YthikfifoomfjgaaGreat
open Go.RowKit Go.Tr Go.WideMaps Go.Maps Go.Proofs.YthikfifoomfjgaaGreat.PA Go.Proofs.YthikfifoomfjgaaGreatW.PrintWords Go.Proofs.YthikfifoomfjgaaGreatW.PrintLast Go.Proofs.YthikfifoomfjgaaGreatW.PrintMore
set_option maxRecDepth 100000
set_option linter.unusedVariables false
set_option linter.unusedSimpArgs false
theorem all_not_any {α : Type} (p : α → Bool) (l : List α) : (!l.any fun x => !p x) = l.all p := by
  induction l with
  | nil => rfl
  | cons a l ih => simp only [List.any_cons, List.all_cons, Bool.not_or, Bool.not_not, ih]
def EachOk (S : Sch) (b1 b2 b3 : Nat) (kind ref : Int) (w : World) : Prop :=
  w.cell? ⟨b1, 0, none⟩ = some (.slice S.A0 S.M.length S.c0) ∧ w.cell? ⟨b1, 1, none⟩ = some (.slice S.A1 S.E.length S.c1) ∧ w.cell? ⟨b2, 0, none⟩ = some (.int .i64 kind) ∧ w.cell? ⟨b3, 0, none⟩ = some (.int .i64 ref) ∧ S.At w
theorem eachOk_below (S : Sch) (b1 b2 b3 : Nat) (kind ref : Int) (w w' : World) (h : EachOk S b1 b2 b3 kind ref w) (b : Below w.heap.size w w') : EachOk S b1 b2 b3 kind ref w' := by
  obtain ⟨h0, h1, h2, h3, h4⟩ := h
  exact ⟨(b.cell (block_lt_of_cell h0)).trans h0, (b.cell (block_lt_of_cell h1)).trans h1, (b.cell (block_lt_of_cell h2)).trans h2, (b.cell (block_lt_of_cell h3)).trans h3, h4.below b⟩
theorem each_1 (S : Sch) (n L : Nat) (hm : MsgC S n L) (b1 b2 b3 : Nat) (kind ref : Int) (w : World) (cs : List Value) (x : Val) (hok : EachOk S b1 b2 b3 kind ref w) (hx : RVal L 0 w (RMsg L 0 w n) cs x) :
    Calls Tryz.prog 136 (#[.agg cs.toArray] ++ #[.pointer (some ⟨b1, 0, none⟩), .pointer (some ⟨b2, 0, none⟩), .pointer (some ⟨b3, 0, none⟩)]) w fun e w' => e = .returned (.bool (!valOk (msgOk S n) kind ref x)) ∧ Below w.heap.size w w' := by
  have HX := Lib.hid hx
  obtain ⟨c, rfl, hn1, hn2, hs, h4⟩ := hx
  obtain ⟨a1, cap1, rfl, q0, q1, q2, -, -⟩ := h4
  have HV := Lib.hid (ty_val S n L hm (w.alloc (.cells #[.int .i64 x.n, .string x.s, .slice a1 x.m.length cap1] 39)) (hok.2.2.2.2.below (al1 _ _)) kind ref _ x (HX.out.below (al1 _ _)))
  obtain ⟨h0, h1, h2, h3, -⟩ := hok
  have l0 := block_lt_of_cell h0
  have l2 := block_lt_of_cell h2
  have l3 := block_lt_of_cell h3
  unfold Sch.cells at HV
  clear HX hm
  go_enter Tryz.func136, Tryz.ntmps136
  go_wp2_with (go_at_call 43; (with_reducible refine HV.out.mono ?_); rintro e w' ⟨rfl, b'⟩)
  exact ⟨rfl, _, results_tmp (t := 5) rfl _ _ _, rfl, (al1 _ _).nx b'⟩
/-- (checker).each. -/
theorem ty_each (S : Sch) (n L : Nat) (hL : L ≤ maxLen) (hm : MsgC S n L) (w : World) (hS : S.At w) (kind ref : Int) (v : Value) (xs : List Val) (hx : RowOf L 0 w 3 (RVal L 0 w (RMsg L 0 w n)) v xs) :
    Calls Tryz.prog 106 #[.agg S.cells, .int .i64 kind, .int .i64 ref, v] w fun e w' => e = .returned (.bool (xs.all (valOk (msgOk S n) kind ref))) ∧ Below w.heap.size w w' := by
  have hb := ((al1 w (.cells S.cells 62)).nx (al1 _ (.cells #[.int .i64 kind] 3))).nx (al1 _ (.cells #[.int .i64 ref] 3))
  have hok : EachOk S w.heap.size (w.heap.size + 1) (w.heap.size + 1 + 1) kind ref (((w.alloc (.cells S.cells 62)).alloc (.cells #[.int .i64 kind] 3)).alloc (.cells #[.int .i64 ref] 3)) := by
    refine ⟨?_, ?_, ?_, ?_, hS.below hb⟩ <;> simp [go_sem, Sch.cells]
  have HC := Lib.hid (containsFunc_val L 0 hL (fun w => RVal L 0 w (RMsg L 0 w n)) (rval_stands L 0 n) (rval_three L 0 n) (fun x => !valOk (msgOk S n) kind ref x) 136 #[.pointer (some ⟨w.heap.size, 0, none⟩), .pointer (some ⟨w.heap.size + 1, 0, none⟩), .pointer (some ⟨w.heap.size + 1 + 1, 0, none⟩)] (enters_of Tryz.func136 (by kernel_rfl) rfl)
    (EachOk S w.heap.size (w.heap.size + 1) (w.heap.size + 1 + 1) kind ref) (eachOk_below S _ _ _ kind ref) (fun w cs x => each_1 S n L hm _ _ _ kind ref w cs x) _ v xs (hx.imp hb fun _ _ _ h => h.below hb) hok)
  have HB := Lib.hid hb
  have HN := Lib.hid (all_not_any (valOk (msgOk S n) kind ref) xs)
  obtain ⟨a1, cap1, rfl, -⟩ := hx
  clear hb hok hm hS
  unfold Sch.cells at *
  go_enter Tryz.func106, Tryz.ntmps106
  go_wp2_with (go_at_call 135; (with_reducible refine HC.out.mono ?_); rintro e w' ⟨rfl, b'⟩)
  exact ⟨rfl, _, results_tmp (t := 8) rfl _ _ _, by rw [← HN.out]; rfl, HB.out.nx b'⟩
/-! SLOT -/
def SlotCells (S : Sch) (f : S47) (x : Slot) (b : Nat) (a1 : Option Addr) (cap1 : Nat) (a2 : Option Addr) (cap2 : Nat) (w' : World) : Prop :=
  w'.cell? ⟨b, 0, none⟩ = some (.slice S.A0 S.M.length S.c0) ∧ w'.cell? ⟨b, 1, none⟩ = some (.slice S.A1 S.E.length S.c1) ∧ w'.cell? ⟨b + 1, 2, none⟩ = some (.int .i64 f.f2) ∧ w'.cell? ⟨b + 1, 3, none⟩ = some (.int .i64 f.f3) ∧ w'.cell? ⟨b + 1, 4, none⟩ = some (.bool f.f4) ∧ w'.cell? ⟨b + 1, 5, none⟩ = some (.int .i64 f.f5) ∧ w'.cell? ⟨b + 1 + 1, 0, none⟩ = some (.int .i64 x.no) ∧ w'.cell? ⟨b + 1 + 1, 1, none⟩ = some (.slice a1 x.k.length cap1) ∧ w'.cell? ⟨b + 1 + 1, 2, none⟩ = some (.slice a2 x.v.length cap2)
theorem keep9s {w w' : World} {p0 p1 p2 p3 p4 p5 p6 p7 p8 : Addr} {v0 v1 v2 v3 v4 v5 v6 v7 v8 : Value} {K : Nat} (b : Below K w w') (hK : K = w.heap.size) (h : w.cell? p0 = some v0 ∧ w.cell? p1 = some v1 ∧ w.cell? p2 = some v2 ∧ w.cell? p3 = some v3 ∧ w.cell? p4 = some v4 ∧ w.cell? p5 = some v5 ∧ w.cell? p6 = some v6 ∧ w.cell? p7 = some v7 ∧ w.cell? p8 = some v8) :
    w'.cell? p0 = some v0 ∧ w'.cell? p1 = some v1 ∧ w'.cell? p2 = some v2 ∧ w'.cell? p3 = some v3 ∧ w'.cell? p4 = some v4 ∧ w'.cell? p5 = some v5 ∧ w'.cell? p6 = some v6 ∧ w'.cell? p7 = some v7 ∧ w'.cell? p8 = some v8 := by
  subst hK
  obtain ⟨h0, h1, h2, h3, h4, h5, h6, h7, h8⟩ := h
  exact ⟨(b.cell (block_lt_of_cell h0)).trans h0, (b.cell (block_lt_of_cell h1)).trans h1, (b.cell (block_lt_of_cell h2)).trans h2, (b.cell (block_lt_of_cell h3)).trans h3, (b.cell (block_lt_of_cell h4)).trans h4, (b.cell (block_lt_of_cell h5)).trans h5, (b.cell (block_lt_of_cell h6)).trans h6, (b.cell (block_lt_of_cell h7)).trans h7, (b.cell (block_lt_of_cell h8)).trans h8⟩
theorem SlotCells.below {S : Sch} {f : S47} {x : Slot} {b : Nat} {a1 : Option Addr} {cap1 : Nat} {a2 : Option Addr} {cap2 : Nat} {w w' : World} (h : SlotCells S f x b a1 cap1 a2 cap2 w) (hb : Below w.heap.size w w') : SlotCells S f x b a1 cap1 a2 cap2 w' := keep9s hb rfl h
set_option maxHeartbeats 4000000 in
/-- (checker).slot. -/
theorem ty_slot (S : Sch) (n L : Nat) (hL : L ≤ 1048576) (hm : MsgC S n L) (w : World) (hS : S.At w) (f : S47) (cs : List Value) (x : Slot) (hx : RSlot L 0 w (RMsg L 0 w n) cs x) :
    Calls Tryz.prog 71 #[.agg S.cells, .agg #[.int .i64 f.f0, .string f.f1, .int .i64 f.f2, .int .i64 f.f3, .bool f.f4, .int .i64 f.f5, .int .i64 f.f6], .agg cs.toArray] w fun e w' => e = .returned (.bool (slotOk (msgOk S n) f x)) ∧ Below w.heap.size w w' := by
  obtain ⟨c, d, rfl, hn1, hn2, hk, hv⟩ := hx
  have HK := Lib.hid fun w' (hb : Below w.heap.size w w') kind => ty_each S n L (by unfold maxLen; omega) hm w' (hS.below hb) kind 0 c x.k (hk.imp hb fun _ _ _ h => h.below hb)
  have HV := Lib.hid fun w' (hb : Below w.heap.size w w') kind ref => ty_each S n L (by unfold maxLen; omega) hm w' (hS.below hb) kind ref d x.v (hv.imp hb fun _ _ _ h => h.below hb)
  have hk1 := hk.len
  have hv1 := hv.len
  obtain ⟨a1, cap1, rfl, -⟩ := hk
  obtain ⟨a2, cap2, rfl, -⟩ := hv
  clear hm hS
  unfold Sch.cells at *
  have HB0 := Lib.hid (((al1 w (.cells #[.slice S.A0 S.M.length S.c0, .slice S.A1 S.E.length S.c1] 62)).nx (al1 _ (.cells #[.int .i64 f.f0, .string f.f1, .int .i64 f.f2, .int .i64 f.f3, .bool f.f4, .int .i64 f.f5, .int .i64 f.f6] 47))).nx (al1 _ (.cells #[.int .i64 x.no, .slice a1 x.k.length cap1, .slice a2 x.v.length cap2] 35)))
  have HCE : Hid (∀ W : World, W = (((w.alloc (.cells #[.slice S.A0 S.M.length S.c0, .slice S.A1 S.E.length S.c1] 62)).alloc (.cells #[.int .i64 f.f0, .string f.f1, .int .i64 f.f2, .int .i64 f.f3, .bool f.f4, .int .i64 f.f5, .int .i64 f.f6] 47)).alloc (.cells #[.int .i64 x.no, .slice a1 x.k.length cap1, .slice a2 x.v.length cap2] 35)) → SlotCells S f x w.heap.size a1 cap1 a2 cap2 W) := Lib.hid (by
    rintro W rfl
    unfold SlotCells
    refine ⟨?_, ?_, ?_, ?_, ?_, ?_, ?_, ?_, ?_⟩ <;> simp [go_sem])
  cases hf4 : f.f4 with
  | true =>
    by_cases h5 : f.f5 = -1
    · have d5 : ((f.f5 : Int) != -1) = false := by simpa using h5
      by_cases hk0 : x.k.length = 0
      · have dk : ((x.k.length : Int) == 0) = true := by rw [beq_iff_eq]; omega
        have HR := Lib.hid (show slotOk (msgOk S n) f x = x.v.all (valOk (msgOk S n) f.f2 f.f3) by unfold slotOk; rw [if_pos h5]; simp [hf4, hk0])
        clear h5 hk0
        go_enter Tryz.func71, Tryz.ntmps71
        go_upto_region 1 with fail
        have HC0 := Lib.hid (HCE.out _ rfl)
        clear HCE
        rw [hf4] at HC0 HB0
        generalize (((w.alloc (.cells #[.slice S.A0 S.M.length S.c0, .slice S.A1 S.E.length S.c1] 62)).alloc (.cells #[.int .i64 f.f0, .string f.f1, .int .i64 f.f2, .int .i64 f.f3, .bool true, .int .i64 f.f5, .int .i64 f.f6] 47)).alloc (.cells #[.int .i64 x.no, .slice a1 x.k.length cap1, .slice a2 x.v.length cap2] 35)) = W at *
        obtain ⟨s0, s1, s2, s3, s4, s5, s6, s7, s8⟩ := HC0.out
        have l0 := block_lt_of_cell s0
        have l1 := block_lt_of_cell s2
        have l2 := block_lt_of_cell s6
        go_quiet (fail)
        have HD := Lib.hid (below_drewN (Below.refl W.heap.size W) nq)
        generalize W.drewN nq = W2 at *
        have HC1 := Lib.hid (HC0.out.below HD.out)
        have HB1 := Lib.hid (HB0.out.nx HD.out)
        clear HC0 HB0 HD s0 s1 s2 s3 s4 s5 s6 s7 s8 l0 l1 l2
        have HC0 := HC1
        clear HC1
        have HB0 := HB1
        clear HB1
        obtain ⟨s0, s1, s2, s3, s4, s5, s6, s7, s8⟩ := HC0.out
        have l0 := block_lt_of_cell s0
        have l1 := block_lt_of_cell s2
        have l2 := block_lt_of_cell s6
        go_wp2_with (go_at_call 106; (with_reducible refine (HV.out _ HB0.out f.f2 f.f3).mono ?_); rintro e w9 ⟨rfl, b9⟩)
        exact ⟨rfl, _, results_tmp (t := 6) rfl _ _ _, by rw [HR.out]; rfl, HB0.out.nx b9⟩
      · have dk : ((x.k.length : Int) == 0) = false := by rw [beq_eq_false_iff_ne]; omega
        have HR := Lib.hid (show slotOk (msgOk S n) f x = false by unfold slotOk; rw [if_pos h5]; simp [hf4, hk0])
        clear h5 hk0
        go_enter Tryz.func71, Tryz.ntmps71
        go_upto_region 1 with fail
        have HC0 := Lib.hid (HCE.out _ rfl)
        clear HCE
        rw [hf4] at HC0 HB0
        generalize (((w.alloc (.cells #[.slice S.A0 S.M.length S.c0, .slice S.A1 S.E.length S.c1] 62)).alloc (.cells #[.int .i64 f.f0, .string f.f1, .int .i64 f.f2, .int .i64 f.f3, .bool true, .int .i64 f.f5, .int .i64 f.f6] 47)).alloc (.cells #[.int .i64 x.no, .slice a1 x.k.length cap1, .slice a2 x.v.length cap2] 35)) = W at *
        obtain ⟨s0, s1, s2, s3, s4, s5, s6, s7, s8⟩ := HC0.out
        have l0 := block_lt_of_cell s0
        have l1 := block_lt_of_cell s2
        have l2 := block_lt_of_cell s6
        go_quiet (fail)
        have HD := Lib.hid (below_drewN (Below.refl W.heap.size W) nq)
        generalize W.drewN nq = W2 at *
        have HC1 := Lib.hid (HC0.out.below HD.out)
        have HB1 := Lib.hid (HB0.out.nx HD.out)
        clear HC0 HB0 HD s0 s1 s2 s3 s4 s5 s6 s7 s8 l0 l1 l2
        have HC0 := HC1
        clear HC1
        have HB0 := HB1
        clear HB1
        obtain ⟨s0, s1, s2, s3, s4, s5, s6, s7, s8⟩ := HC0.out
        have l0 := block_lt_of_cell s0
        have l1 := block_lt_of_cell s2
        have l2 := block_lt_of_cell s6
        go_wp2
        exact ⟨rfl, _, results_tmp (t := 6) rfl _ _ _, by rw [HR.out]; rfl, HB0.out⟩
    · have d5 : ((f.f5 : Int) != -1) = true := by simpa using h5
      have HQ := Lib.hid (show slotOk (msgOk S n) f x = (decide (x.k.length = x.v.length) && (x.k.all (valOk (msgOk S n) f.f5 0) && x.v.all (valOk (msgOk S n) f.f2 f.f3))) by unfold slotOk; rw [if_neg h5])
      generalize hqk : x.k.all (valOk (msgOk S n) f.f5 0) = qk at *
      by_cases hkv : x.k.length = x.v.length
      · have dk : ((x.k.length : Int) == (x.v.length : Int)) = true := by rw [beq_iff_eq]; omega
        cases qk with
        | true =>
          have HR := Lib.hid (show slotOk (msgOk S n) f x = x.v.all (valOk (msgOk S n) f.f2 f.f3) by rw [HQ.out]; simp [hkv])
          clear HQ h5 hkv
          go_enter Tryz.func71, Tryz.ntmps71
          go_upto_region 1 with fail
          have HC0 := Lib.hid (HCE.out _ rfl)
          clear HCE
          rw [hf4] at HC0 HB0
          generalize (((w.alloc (.cells #[.slice S.A0 S.M.length S.c0, .slice S.A1 S.E.length S.c1] 62)).alloc (.cells #[.int .i64 f.f0, .string f.f1, .int .i64 f.f2, .int .i64 f.f3, .bool true, .int .i64 f.f5, .int .i64 f.f6] 47)).alloc (.cells #[.int .i64 x.no, .slice a1 x.k.length cap1, .slice a2 x.v.length cap2] 35)) = W at *
          obtain ⟨s0, s1, s2, s3, s4, s5, s6, s7, s8⟩ := HC0.out
          have l0 := block_lt_of_cell s0
          have l1 := block_lt_of_cell s2
          have l2 := block_lt_of_cell s6
          go_quiet (fail)
          have HD := Lib.hid (below_drewN (Below.refl W.heap.size W) nq)
          generalize W.drewN nq = W2 at *
          have HC1 := Lib.hid (HC0.out.below HD.out)
          have HB1 := Lib.hid (HB0.out.nx HD.out)
          clear HC0 HB0 HD s0 s1 s2 s3 s4 s5 s6 s7 s8 l0 l1 l2
          have HC0 := HC1
          clear HC1
          have HB0 := HB1
          clear HB1
          obtain ⟨s0, s1, s2, s3, s4, s5, s6, s7, s8⟩ := HC0.out
          have l0 := block_lt_of_cell s0
          have l1 := block_lt_of_cell s2
          have l2 := block_lt_of_cell s6
          have hqk2 := hqk
          clear hqk
          have HK2 := Lib.hid (fun w' hb => HK.out w' hb f.f5)
          rw [hqk2] at HK2
          clear hqk2 HK
          go_upto_region 3 with fail
          have hs0 := HC0.out
          have hk := hs0
          unfold SlotCells at hk hs0
          go_region_held3 (fun w' => w'.cell? ⟨w.heap.size, 0, none⟩ = some (.slice S.A0 S.M.length S.c0) ∧ w'.cell? ⟨w.heap.size, 1, none⟩ = some (.slice S.A1 S.E.length S.c1) ∧ w'.cell? ⟨w.heap.size + 1, 2, none⟩ = some (.int .i64 f.f2) ∧ w'.cell? ⟨w.heap.size + 1, 3, none⟩ = some (.int .i64 f.f3) ∧ w'.cell? ⟨w.heap.size + 1, 4, none⟩ = some (.bool f.f4) ∧ w'.cell? ⟨w.heap.size + 1, 5, none⟩ = some (.int .i64 f.f5) ∧ w'.cell? ⟨w.heap.size + 1 + 1, 0, none⟩ = some (.int .i64 x.no) ∧ w'.cell? ⟨w.heap.size + 1 + 1, 1, none⟩ = some (.slice a1 x.k.length cap1) ∧ w'.cell? ⟨w.heap.size + 1 + 1, 2, none⟩ = some (.slice a2 x.v.length cap2))
            (first | exact hk | (go_keep; done))
            (first | (go_at_call 106; (with_reducible refine (HK2.out _ ?_).mono ?_); (exact HB0.out.drew); rintro e y1 ⟨rfl, g1⟩; (have D1 := Lib.hid ((Below.refl W2.heap.size W2).drew.nx g1)); clear hk; (have hk := keep9s D1.out rfl hs0); clear g1))
          all_goals (
            obtain ⟨s0, s1, s2, s3, s4, s5, s6, s7, s8⟩ := hk
            have l0 := block_lt_of_cell s0
            have l1 := block_lt_of_cell s2
            have l2 := block_lt_of_cell s6
            have HB1 := Lib.hid (HB0.out.nx D1.out)
            clear HB0 D1 HC0 hs0
            have HB0 := HB1
            clear HB1
            go_wp2_with (go_at_call 106; (with_reducible refine (HV.out _ HB0.out f.f2 f.f3).mono ?_); rintro e w9 ⟨rfl, b9⟩)
            exact ⟨rfl, _, results_tmp (t := 6) rfl _ _ _, by rw [HR.out]; rfl, HB0.out.nx b9⟩)
        | false =>
          have HR := Lib.hid (show slotOk (msgOk S n) f x = false by rw [HQ.out]; simp [hkv])
          clear HQ h5 hkv
          go_enter Tryz.func71, Tryz.ntmps71
          go_upto_region 1 with fail
          have HC0 := Lib.hid (HCE.out _ rfl)
          clear HCE
          rw [hf4] at HC0 HB0
          generalize (((w.alloc (.cells #[.slice S.A0 S.M.length S.c0, .slice S.A1 S.E.length S.c1] 62)).alloc (.cells #[.int .i64 f.f0, .string f.f1, .int .i64 f.f2, .int .i64 f.f3, .bool true, .int .i64 f.f5, .int .i64 f.f6] 47)).alloc (.cells #[.int .i64 x.no, .slice a1 x.k.length cap1, .slice a2 x.v.length cap2] 35)) = W at *
          obtain ⟨s0, s1, s2, s3, s4, s5, s6, s7, s8⟩ := HC0.out
          have l0 := block_lt_of_cell s0
          have l1 := block_lt_of_cell s2
          have l2 := block_lt_of_cell s6
          go_quiet (fail)
          have HD := Lib.hid (below_drewN (Below.refl W.heap.size W) nq)
          generalize W.drewN nq = W2 at *
          have HC1 := Lib.hid (HC0.out.below HD.out)
          have HB1 := Lib.hid (HB0.out.nx HD.out)
          clear HC0 HB0 HD s0 s1 s2 s3 s4 s5 s6 s7 s8 l0 l1 l2
          have HC0 := HC1
          clear HC1
          have HB0 := HB1
          clear HB1
          obtain ⟨s0, s1, s2, s3, s4, s5, s6, s7, s8⟩ := HC0.out
          have l0 := block_lt_of_cell s0
          have l1 := block_lt_of_cell s2
          have l2 := block_lt_of_cell s6
          have hqk2 := hqk
          clear hqk
          have HK2 := Lib.hid (fun w' hb => HK.out w' hb f.f5)
          rw [hqk2] at HK2
          clear hqk2 HK
          go_upto_region 3 with fail
          have hs0 := HC0.out
          have hk := hs0
          unfold SlotCells at hk hs0
          go_region_held3 (fun w' => w'.cell? ⟨w.heap.size, 0, none⟩ = some (.slice S.A0 S.M.length S.c0) ∧ w'.cell? ⟨w.heap.size, 1, none⟩ = some (.slice S.A1 S.E.length S.c1) ∧ w'.cell? ⟨w.heap.size + 1, 2, none⟩ = some (.int .i64 f.f2) ∧ w'.cell? ⟨w.heap.size + 1, 3, none⟩ = some (.int .i64 f.f3) ∧ w'.cell? ⟨w.heap.size + 1, 4, none⟩ = some (.bool f.f4) ∧ w'.cell? ⟨w.heap.size + 1, 5, none⟩ = some (.int .i64 f.f5) ∧ w'.cell? ⟨w.heap.size + 1 + 1, 0, none⟩ = some (.int .i64 x.no) ∧ w'.cell? ⟨w.heap.size + 1 + 1, 1, none⟩ = some (.slice a1 x.k.length cap1) ∧ w'.cell? ⟨w.heap.size + 1 + 1, 2, none⟩ = some (.slice a2 x.v.length cap2))
            (first | exact hk | (go_keep; done))
            (first | (go_at_call 106; (with_reducible refine (HK2.out _ ?_).mono ?_); (exact HB0.out.drew); rintro e y1 ⟨rfl, g1⟩; (have D1 := Lib.hid ((Below.refl W2.heap.size W2).drew.nx g1)); clear hk; (have hk := keep9s D1.out rfl hs0); clear g1))
          all_goals (
            obtain ⟨s0, s1, s2, s3, s4, s5, s6, s7, s8⟩ := hk
            have l0 := block_lt_of_cell s0
            have l1 := block_lt_of_cell s2
            have l2 := block_lt_of_cell s6
            have HB1 := Lib.hid (HB0.out.nx D1.out)
            clear HB0 D1 HC0 hs0
            have HB0 := HB1
            clear HB1
            go_wp2_with fail
            exact ⟨rfl, _, results_tmp (t := 6) rfl _ _ _, by rw [HR.out]; rfl, HB0.out⟩)
      · have dk : ((x.k.length : Int) == (x.v.length : Int)) = false := by rw [beq_eq_false_iff_ne]; omega
        have HR := Lib.hid (show slotOk (msgOk S n) f x = false by rw [HQ.out]; simp [hkv])
        clear HQ h5 hkv
        go_enter Tryz.func71, Tryz.ntmps71
        go_upto_region 1 with fail
        have HC0 := Lib.hid (HCE.out _ rfl)
        clear HCE
        rw [hf4] at HC0 HB0
        generalize (((w.alloc (.cells #[.slice S.A0 S.M.length S.c0, .slice S.A1 S.E.length S.c1] 62)).alloc (.cells #[.int .i64 f.f0, .string f.f1, .int .i64 f.f2, .int .i64 f.f3, .bool true, .int .i64 f.f5, .int .i64 f.f6] 47)).alloc (.cells #[.int .i64 x.no, .slice a1 x.k.length cap1, .slice a2 x.v.length cap2] 35)) = W at *
        obtain ⟨s0, s1, s2, s3, s4, s5, s6, s7, s8⟩ := HC0.out
        have l0 := block_lt_of_cell s0
        have l1 := block_lt_of_cell s2
        have l2 := block_lt_of_cell s6
        go_quiet (fail)
        have HD := Lib.hid (below_drewN (Below.refl W.heap.size W) nq)
        generalize W.drewN nq = W2 at *
        have HC1 := Lib.hid (HC0.out.below HD.out)
        have HB1 := Lib.hid (HB0.out.nx HD.out)
        clear HC0 HB0 HD s0 s1 s2 s3 s4 s5 s6 s7 s8 l0 l1 l2
        have HC0 := HC1
        clear HC1
        have HB0 := HB1
        clear HB1
        obtain ⟨s0, s1, s2, s3, s4, s5, s6, s7, s8⟩ := HC0.out
        have l0 := block_lt_of_cell s0
        have l1 := block_lt_of_cell s2
        have l2 := block_lt_of_cell s6
        have hqk2 := hqk
        clear hqk
        have HK2 := Lib.hid (fun w' hb => HK.out w' hb f.f5)
        rw [hqk2] at HK2
        clear hqk2 HK
        go_upto_region 3 with fail
        have hs0 := HC0.out
        have hk := hs0
        unfold SlotCells at hk hs0
        go_region_held3 (fun w' => w'.cell? ⟨w.heap.size, 0, none⟩ = some (.slice S.A0 S.M.length S.c0) ∧ w'.cell? ⟨w.heap.size, 1, none⟩ = some (.slice S.A1 S.E.length S.c1) ∧ w'.cell? ⟨w.heap.size + 1, 2, none⟩ = some (.int .i64 f.f2) ∧ w'.cell? ⟨w.heap.size + 1, 3, none⟩ = some (.int .i64 f.f3) ∧ w'.cell? ⟨w.heap.size + 1, 4, none⟩ = some (.bool f.f4) ∧ w'.cell? ⟨w.heap.size + 1, 5, none⟩ = some (.int .i64 f.f5) ∧ w'.cell? ⟨w.heap.size + 1 + 1, 0, none⟩ = some (.int .i64 x.no) ∧ w'.cell? ⟨w.heap.size + 1 + 1, 1, none⟩ = some (.slice a1 x.k.length cap1) ∧ w'.cell? ⟨w.heap.size + 1 + 1, 2, none⟩ = some (.slice a2 x.v.length cap2))
          (first | exact hk | (go_keep; done))
          (first | (go_at_call 106; (with_reducible refine (HK2.out _ ?_).mono ?_); (exact HB0.out.drew); rintro e y1 ⟨rfl, g1⟩; (have D1 := Lib.hid ((Below.refl W2.heap.size W2).drew.nx g1)); clear hk; (have hk := keep9s D1.out rfl hs0); clear g1))
        all_goals (
          obtain ⟨s0, s1, s2, s3, s4, s5, s6, s7, s8⟩ := hk
          have l0 := block_lt_of_cell s0
          have l1 := block_lt_of_cell s2
          have l2 := block_lt_of_cell s6
          have HB1 := Lib.hid (HB0.out.nx D1.out)
          clear HB0 D1 HC0 hs0
          have HB0 := HB1
          clear HB1
          go_wp2_with fail
          exact ⟨rfl, _, results_tmp (t := 6) rfl _ _ _, by rw [HR.out]; rfl, HB0.out⟩)
  | false =>
    by_cases h5 : f.f5 = -1
    · have d5 : ((f.f5 : Int) != -1) = false := by simpa using h5
      by_cases hk0 : x.k.length = 0
      · have dk : ((x.k.length : Int) == 0) = true := by rw [beq_iff_eq]; omega
        by_cases hv0 : x.v.length = 1
        · have dv : ((x.v.length : Int) == 1) = true := by rw [beq_iff_eq]; omega
          have HR := Lib.hid (show slotOk (msgOk S n) f x = x.v.all (valOk (msgOk S n) f.f2 f.f3) by unfold slotOk; rw [if_pos h5]; simp [hf4, hk0, hv0])
          clear h5 hk0 hv0
          go_enter Tryz.func71, Tryz.ntmps71
          go_upto_region 1 with fail
          have HC0 := Lib.hid (HCE.out _ rfl)
          clear HCE
          rw [hf4] at HC0 HB0
          generalize (((w.alloc (.cells #[.slice S.A0 S.M.length S.c0, .slice S.A1 S.E.length S.c1] 62)).alloc (.cells #[.int .i64 f.f0, .string f.f1, .int .i64 f.f2, .int .i64 f.f3, .bool false, .int .i64 f.f5, .int .i64 f.f6] 47)).alloc (.cells #[.int .i64 x.no, .slice a1 x.k.length cap1, .slice a2 x.v.length cap2] 35)) = W at *
          obtain ⟨s0, s1, s2, s3, s4, s5, s6, s7, s8⟩ := HC0.out
          have l0 := block_lt_of_cell s0
          have l1 := block_lt_of_cell s2
          have l2 := block_lt_of_cell s6
          go_quiet (fail)
          have HD := Lib.hid (below_drewN (Below.refl W.heap.size W) nq)
          generalize W.drewN nq = W2 at *
          have HC1 := Lib.hid (HC0.out.below HD.out)
          have HB1 := Lib.hid (HB0.out.nx HD.out)
          clear HC0 HB0 HD s0 s1 s2 s3 s4 s5 s6 s7 s8 l0 l1 l2
          have HC0 := HC1
          clear HC1
          have HB0 := HB1
          clear HB1
          obtain ⟨s0, s1, s2, s3, s4, s5, s6, s7, s8⟩ := HC0.out
          have l0 := block_lt_of_cell s0
          have l1 := block_lt_of_cell s2
          have l2 := block_lt_of_cell s6
          go_wp2_with (go_at_call 106; (with_reducible refine (HV.out _ HB0.out f.f2 f.f3).mono ?_); rintro e w9 ⟨rfl, b9⟩)
          exact ⟨rfl, _, results_tmp (t := 6) rfl _ _ _, by rw [HR.out]; rfl, HB0.out.nx b9⟩
        · have dv : ((x.v.length : Int) == 1) = false := by rw [beq_eq_false_iff_ne]; omega
          have HR := Lib.hid (show slotOk (msgOk S n) f x = false by unfold slotOk; rw [if_pos h5]; simp [hf4, hk0, hv0])
          clear h5 hk0 hv0
          go_enter Tryz.func71, Tryz.ntmps71
          go_upto_region 1 with fail
          have HC0 := Lib.hid (HCE.out _ rfl)
          clear HCE
          rw [hf4] at HC0 HB0
          generalize (((w.alloc (.cells #[.slice S.A0 S.M.length S.c0, .slice S.A1 S.E.length S.c1] 62)).alloc (.cells #[.int .i64 f.f0, .string f.f1, .int .i64 f.f2, .int .i64 f.f3, .bool false, .int .i64 f.f5, .int .i64 f.f6] 47)).alloc (.cells #[.int .i64 x.no, .slice a1 x.k.length cap1, .slice a2 x.v.length cap2] 35)) = W at *
          obtain ⟨s0, s1, s2, s3, s4, s5, s6, s7, s8⟩ := HC0.out
          have l0 := block_lt_of_cell s0
          have l1 := block_lt_of_cell s2
          have l2 := block_lt_of_cell s6
          go_quiet (fail)
          have HD := Lib.hid (below_drewN (Below.refl W.heap.size W) nq)
          generalize W.drewN nq = W2 at *
          have HC1 := Lib.hid (HC0.out.below HD.out)
          have HB1 := Lib.hid (HB0.out.nx HD.out)
          clear HC0 HB0 HD s0 s1 s2 s3 s4 s5 s6 s7 s8 l0 l1 l2
          have HC0 := HC1
          clear HC1
          have HB0 := HB1
          clear HB1
          obtain ⟨s0, s1, s2, s3, s4, s5, s6, s7, s8⟩ := HC0.out
          have l0 := block_lt_of_cell s0
          have l1 := block_lt_of_cell s2
          have l2 := block_lt_of_cell s6
          go_wp2
          exact ⟨rfl, _, results_tmp (t := 6) rfl _ _ _, by rw [HR.out]; rfl, HB0.out⟩
      · have dk : ((x.k.length : Int) == 0) = false := by rw [beq_eq_false_iff_ne]; omega
        by_cases hv0 : x.v.length = 1
        · have dv : ((x.v.length : Int) == 1) = true := by rw [beq_iff_eq]; omega
          have HR := Lib.hid (show slotOk (msgOk S n) f x = false by unfold slotOk; rw [if_pos h5]; simp [hf4, hk0, hv0])
          clear h5 hk0 hv0
          go_enter Tryz.func71, Tryz.ntmps71
          go_upto_region 1 with fail
          have HC0 := Lib.hid (HCE.out _ rfl)
          clear HCE
          rw [hf4] at HC0 HB0
          generalize (((w.alloc (.cells #[.slice S.A0 S.M.length S.c0, .slice S.A1 S.E.length S.c1] 62)).alloc (.cells #[.int .i64 f.f0, .string f.f1, .int .i64 f.f2, .int .i64 f.f3, .bool false, .int .i64 f.f5, .int .i64 f.f6] 47)).alloc (.cells #[.int .i64 x.no, .slice a1 x.k.length cap1, .slice a2 x.v.length cap2] 35)) = W at *
          obtain ⟨s0, s1, s2, s3, s4, s5, s6, s7, s8⟩ := HC0.out
          have l0 := block_lt_of_cell s0
          have l1 := block_lt_of_cell s2
          have l2 := block_lt_of_cell s6
          go_quiet (fail)
          have HD := Lib.hid (below_drewN (Below.refl W.heap.size W) nq)
          generalize W.drewN nq = W2 at *
          have HC1 := Lib.hid (HC0.out.below HD.out)
          have HB1 := Lib.hid (HB0.out.nx HD.out)
          clear HC0 HB0 HD s0 s1 s2 s3 s4 s5 s6 s7 s8 l0 l1 l2
          have HC0 := HC1
          clear HC1
          have HB0 := HB1
          clear HB1
          obtain ⟨s0, s1, s2, s3, s4, s5, s6, s7, s8⟩ := HC0.out
          have l0 := block_lt_of_cell s0
          have l1 := block_lt_of_cell s2
          have l2 := block_lt_of_cell s6
          go_wp2
          exact ⟨rfl, _, results_tmp (t := 6) rfl _ _ _, by rw [HR.out]; rfl, HB0.out⟩
        · have dv : ((x.v.length : Int) == 1) = false := by rw [beq_eq_false_iff_ne]; omega
          have HR := Lib.hid (show slotOk (msgOk S n) f x = false by unfold slotOk; rw [if_pos h5]; simp [hf4, hk0, hv0])
          clear h5 hk0 hv0
          go_enter Tryz.func71, Tryz.ntmps71
          go_upto_region 1 with fail
          have HC0 := Lib.hid (HCE.out _ rfl)
          clear HCE
          rw [hf4] at HC0 HB0
          generalize (((w.alloc (.cells #[.slice S.A0 S.M.length S.c0, .slice S.A1 S.E.length S.c1] 62)).alloc (.cells #[.int .i64 f.f0, .string f.f1, .int .i64 f.f2, .int .i64 f.f3, .bool false, .int .i64 f.f5, .int .i64 f.f6] 47)).alloc (.cells #[.int .i64 x.no, .slice a1 x.k.length cap1, .slice a2 x.v.length cap2] 35)) = W at *
          obtain ⟨s0, s1, s2, s3, s4, s5, s6, s7, s8⟩ := HC0.out
          have l0 := block_lt_of_cell s0
          have l1 := block_lt_of_cell s2
          have l2 := block_lt_of_cell s6
          go_quiet (fail)
          have HD := Lib.hid (below_drewN (Below.refl W.heap.size W) nq)
          generalize W.drewN nq = W2 at *
          have HC1 := Lib.hid (HC0.out.below HD.out)
          have HB1 := Lib.hid (HB0.out.nx HD.out)
          clear HC0 HB0 HD s0 s1 s2 s3 s4 s5 s6 s7 s8 l0 l1 l2
          have HC0 := HC1
          clear HC1
          have HB0 := HB1
          clear HB1
          obtain ⟨s0, s1, s2, s3, s4, s5, s6, s7, s8⟩ := HC0.out
          have l0 := block_lt_of_cell s0
          have l1 := block_lt_of_cell s2
          have l2 := block_lt_of_cell s6
          go_wp2
          exact ⟨rfl, _, results_tmp (t := 6) rfl _ _ _, by rw [HR.out]; rfl, HB0.out⟩
    · have d5 : ((f.f5 : Int) != -1) = true := by simpa using h5
      have HQ := Lib.hid (show slotOk (msgOk S n) f x = (decide (x.k.length = x.v.length) && (x.k.all (valOk (msgOk S n) f.f5 0) && x.v.all (valOk (msgOk S n) f.f2 f.f3))) by unfold slotOk; rw [if_neg h5])
      generalize hqk : x.k.all (valOk (msgOk S n) f.f5 0) = qk at *
      by_cases hkv : x.k.length = x.v.length
      · have dk : ((x.k.length : Int) == (x.v.length : Int)) = true := by rw [beq_iff_eq]; omega
        cases qk with
        | true =>
          have HR := Lib.hid (show slotOk (msgOk S n) f x = x.v.all (valOk (msgOk S n) f.f2 f.f3) by rw [HQ.out]; simp [hkv])
          clear HQ h5 hkv
          go_enter Tryz.func71, Tryz.ntmps71
          go_upto_region 1 with fail
          have HC0 := Lib.hid (HCE.out _ rfl)
          clear HCE
          rw [hf4] at HC0 HB0
          generalize (((w.alloc (.cells #[.slice S.A0 S.M.length S.c0, .slice S.A1 S.E.length S.c1] 62)).alloc (.cells #[.int .i64 f.f0, .string f.f1, .int .i64 f.f2, .int .i64 f.f3, .bool false, .int .i64 f.f5, .int .i64 f.f6] 47)).alloc (.cells #[.int .i64 x.no, .slice a1 x.k.length cap1, .slice a2 x.v.length cap2] 35)) = W at *
          obtain ⟨s0, s1, s2, s3, s4, s5, s6, s7, s8⟩ := HC0.out
          have l0 := block_lt_of_cell s0
          have l1 := block_lt_of_cell s2
          have l2 := block_lt_of_cell s6
          go_quiet (fail)
          have HD := Lib.hid (below_drewN (Below.refl W.heap.size W) nq)
          generalize W.drewN nq = W2 at *
          have HC1 := Lib.hid (HC0.out.below HD.out)
          have HB1 := Lib.hid (HB0.out.nx HD.out)
          clear HC0 HB0 HD s0 s1 s2 s3 s4 s5 s6 s7 s8 l0 l1 l2
          have HC0 := HC1
          clear HC1
          have HB0 := HB1
          clear HB1
          obtain ⟨s0, s1, s2, s3, s4, s5, s6, s7, s8⟩ := HC0.out
          have l0 := block_lt_of_cell s0
          have l1 := block_lt_of_cell s2
          have l2 := block_lt_of_cell s6
          have hqk2 := hqk
          clear hqk
          have HK2 := Lib.hid (fun w' hb => HK.out w' hb f.f5)
          rw [hqk2] at HK2
          clear hqk2 HK
          go_upto_region 3 with fail
          have hs0 := HC0.out
          have hk := hs0
          unfold SlotCells at hk hs0
          go_region_held3 (fun w' => w'.cell? ⟨w.heap.size, 0, none⟩ = some (.slice S.A0 S.M.length S.c0) ∧ w'.cell? ⟨w.heap.size, 1, none⟩ = some (.slice S.A1 S.E.length S.c1) ∧ w'.cell? ⟨w.heap.size + 1, 2, none⟩ = some (.int .i64 f.f2) ∧ w'.cell? ⟨w.heap.size + 1, 3, none⟩ = some (.int .i64 f.f3) ∧ w'.cell? ⟨w.heap.size + 1, 4, none⟩ = some (.bool f.f4) ∧ w'.cell? ⟨w.heap.size + 1, 5, none⟩ = some (.int .i64 f.f5) ∧ w'.cell? ⟨w.heap.size + 1 + 1, 0, none⟩ = some (.int .i64 x.no) ∧ w'.cell? ⟨w.heap.size + 1 + 1, 1, none⟩ = some (.slice a1 x.k.length cap1) ∧ w'.cell? ⟨w.heap.size + 1 + 1, 2, none⟩ = some (.slice a2 x.v.length cap2))
            (first | exact hk | (go_keep; done))
            (first | (go_at_call 106; (with_reducible refine (HK2.out _ ?_).mono ?_); (exact HB0.out.drew); rintro e y1 ⟨rfl, g1⟩; (have D1 := Lib.hid ((Below.refl W2.heap.size W2).drew.nx g1)); clear hk; (have hk := keep9s D1.out rfl hs0); clear g1))
          all_goals (
            obtain ⟨s0, s1, s2, s3, s4, s5, s6, s7, s8⟩ := hk
            have l0 := block_lt_of_cell s0
            have l1 := block_lt_of_cell s2
            have l2 := block_lt_of_cell s6
            have HB1 := Lib.hid (HB0.out.nx D1.out)
            clear HB0 D1 HC0 hs0
            have HB0 := HB1
            clear HB1
            go_wp2_with (go_at_call 106; (with_reducible refine (HV.out _ HB0.out f.f2 f.f3).mono ?_); rintro e w9 ⟨rfl, b9⟩)
            exact ⟨rfl, _, results_tmp (t := 6) rfl _ _ _, by rw [HR.out]; rfl, HB0.out.nx b9⟩)
        | false =>
          have HR := Lib.hid (show slotOk (msgOk S n) f x = false by rw [HQ.out]; simp [hkv])
          clear HQ h5 hkv
          go_enter Tryz.func71, Tryz.ntmps71
          go_upto_region 1 with fail
          have HC0 := Lib.hid (HCE.out _ rfl)
          clear HCE
          rw [hf4] at HC0 HB0
          generalize (((w.alloc (.cells #[.slice S.A0 S.M.length S.c0, .slice S.A1 S.E.length S.c1] 62)).alloc (.cells #[.int .i64 f.f0, .string f.f1, .int .i64 f.f2, .int .i64 f.f3, .bool false, .int .i64 f.f5, .int .i64 f.f6] 47)).alloc (.cells #[.int .i64 x.no, .slice a1 x.k.length cap1, .slice a2 x.v.length cap2] 35)) = W at *
          obtain ⟨s0, s1, s2, s3, s4, s5, s6, s7, s8⟩ := HC0.out
          have l0 := block_lt_of_cell s0
          have l1 := block_lt_of_cell s2
          have l2 := block_lt_of_cell s6
          go_quiet (fail)
          have HD := Lib.hid (below_drewN (Below.refl W.heap.size W) nq)
          generalize W.drewN nq = W2 at *
          have HC1 := Lib.hid (HC0.out.below HD.out)
          have HB1 := Lib.hid (HB0.out.nx HD.out)
          clear HC0 HB0 HD s0 s1 s2 s3 s4 s5 s6 s7 s8 l0 l1 l2
          have HC0 := HC1
          clear HC1
          have HB0 := HB1
          clear HB1
          obtain ⟨s0, s1, s2, s3, s4, s5, s6, s7, s8⟩ := HC0.out
          have l0 := block_lt_of_cell s0
          have l1 := block_lt_of_cell s2
          have l2 := block_lt_of_cell s6
          have hqk2 := hqk
          clear hqk
          have HK2 := Lib.hid (fun w' hb => HK.out w' hb f.f5)
          rw [hqk2] at HK2
          clear hqk2 HK
          go_upto_region 3 with fail
          have hs0 := HC0.out
          have hk := hs0
          unfold SlotCells at hk hs0
          go_region_held3 (fun w' => w'.cell? ⟨w.heap.size, 0, none⟩ = some (.slice S.A0 S.M.length S.c0) ∧ w'.cell? ⟨w.heap.size, 1, none⟩ = some (.slice S.A1 S.E.length S.c1) ∧ w'.cell? ⟨w.heap.size + 1, 2, none⟩ = some (.int .i64 f.f2) ∧ w'.cell? ⟨w.heap.size + 1, 3, none⟩ = some (.int .i64 f.f3) ∧ w'.cell? ⟨w.heap.size + 1, 4, none⟩ = some (.bool f.f4) ∧ w'.cell? ⟨w.heap.size + 1, 5, none⟩ = some (.int .i64 f.f5) ∧ w'.cell? ⟨w.heap.size + 1 + 1, 0, none⟩ = some (.int .i64 x.no) ∧ w'.cell? ⟨w.heap.size + 1 + 1, 1, none⟩ = some (.slice a1 x.k.length cap1) ∧ w'.cell? ⟨w.heap.size + 1 + 1, 2, none⟩ = some (.slice a2 x.v.length cap2))
            (first | exact hk | (go_keep; done))
            (first | (go_at_call 106; (with_reducible refine (HK2.out _ ?_).mono ?_); (exact HB0.out.drew); rintro e y1 ⟨rfl, g1⟩; (have D1 := Lib.hid ((Below.refl W2.heap.size W2).drew.nx g1)); clear hk; (have hk := keep9s D1.out rfl hs0); clear g1))
          all_goals (
            obtain ⟨s0, s1, s2, s3, s4, s5, s6, s7, s8⟩ := hk
            have l0 := block_lt_of_cell s0
            have l1 := block_lt_of_cell s2
            have l2 := block_lt_of_cell s6
            have HB1 := Lib.hid (HB0.out.nx D1.out)
            clear HB0 D1 HC0 hs0
            have HB0 := HB1
            clear HB1
            go_wp2_with fail
            exact ⟨rfl, _, results_tmp (t := 6) rfl _ _ _, by rw [HR.out]; rfl, HB0.out⟩)
      · have dk : ((x.k.length : Int) == (x.v.length : Int)) = false := by rw [beq_eq_false_iff_ne]; omega
        have HR := Lib.hid (show slotOk (msgOk S n) f x = false by rw [HQ.out]; simp [hkv])
        clear HQ h5 hkv
        go_enter Tryz.func71, Tryz.ntmps71
        go_upto_region 1 with fail
        have HC0 := Lib.hid (HCE.out _ rfl)
        clear HCE
        rw [hf4] at HC0 HB0
        generalize (((w.alloc (.cells #[.slice S.A0 S.M.length S.c0, .slice S.A1 S.E.length S.c1] 62)).alloc (.cells #[.int .i64 f.f0, .string f.f1, .int .i64 f.f2, .int .i64 f.f3, .bool false, .int .i64 f.f5, .int .i64 f.f6] 47)).alloc (.cells #[.int .i64 x.no, .slice a1 x.k.length cap1, .slice a2 x.v.length cap2] 35)) = W at *
        obtain ⟨s0, s1, s2, s3, s4, s5, s6, s7, s8⟩ := HC0.out
        have l0 := block_lt_of_cell s0
        have l1 := block_lt_of_cell s2
        have l2 := block_lt_of_cell s6
        go_quiet (fail)
        have HD := Lib.hid (below_drewN (Below.refl W.heap.size W) nq)
        generalize W.drewN nq = W2 at *
        have HC1 := Lib.hid (HC0.out.below HD.out)
        have HB1 := Lib.hid (HB0.out.nx HD.out)
        clear HC0 HB0 HD s0 s1 s2 s3 s4 s5 s6 s7 s8 l0 l1 l2
        have HC0 := HC1
        clear HC1
        have HB0 := HB1
        clear HB1
        obtain ⟨s0, s1, s2, s3, s4, s5, s6, s7, s8⟩ := HC0.out
        have l0 := block_lt_of_cell s0
        have l1 := block_lt_of_cell s2
        have l2 := block_lt_of_cell s6
        have hqk2 := hqk
        clear hqk
        have HK2 := Lib.hid (fun w' hb => HK.out w' hb f.f5)
        rw [hqk2] at HK2
        clear hqk2 HK
        go_upto_region 3 with fail
        have hs0 := HC0.out
        have hk := hs0
        unfold SlotCells at hk hs0
        go_region_held3 (fun w' => w'.cell? ⟨w.heap.size, 0, none⟩ = some (.slice S.A0 S.M.length S.c0) ∧ w'.cell? ⟨w.heap.size, 1, none⟩ = some (.slice S.A1 S.E.length S.c1) ∧ w'.cell? ⟨w.heap.size + 1, 2, none⟩ = some (.int .i64 f.f2) ∧ w'.cell? ⟨w.heap.size + 1, 3, none⟩ = some (.int .i64 f.f3) ∧ w'.cell? ⟨w.heap.size + 1, 4, none⟩ = some (.bool f.f4) ∧ w'.cell? ⟨w.heap.size + 1, 5, none⟩ = some (.int .i64 f.f5) ∧ w'.cell? ⟨w.heap.size + 1 + 1, 0, none⟩ = some (.int .i64 x.no) ∧ w'.cell? ⟨w.heap.size + 1 + 1, 1, none⟩ = some (.slice a1 x.k.length cap1) ∧ w'.cell? ⟨w.heap.size + 1 + 1, 2, none⟩ = some (.slice a2 x.v.length cap2))
          (first | exact hk | (go_keep; done))
          (first | (go_at_call 106; (with_reducible refine (HK2.out _ ?_).mono ?_); (exact HB0.out.drew); rintro e y1 ⟨rfl, g1⟩; (have D1 := Lib.hid ((Below.refl W2.heap.size W2).drew.nx g1)); clear hk; (have hk := keep9s D1.out rfl hs0); clear g1))
        all_goals (
          obtain ⟨s0, s1, s2, s3, s4, s5, s6, s7, s8⟩ := hk
          have l0 := block_lt_of_cell s0
          have l1 := block_lt_of_cell s2
          have l2 := block_lt_of_cell s6
          have HB1 := Lib.hid (HB0.out.nx D1.out)
          clear HB0 D1 HC0 hs0
          have HB0 := HB1
          clear HB1
          go_wp2_with fail
          exact ⟨rfl, _, results_tmp (t := 6) rfl _ _ _, by rw [HR.out]; rfl, HB0.out⟩)
end Go.Proofs.YthikfifoomfjgaaGreat
namespace Go.Proofs.YthikfifoomfjgaaGreat
open Go.RowKit Go.Tr Go.WideMaps Go.Maps Go.Proofs.YthikfifoomfjgaaGreat.PA Go.Proofs.YthikfifoomfjgaaGreatW.PrintWords Go.Proofs.YthikfifoomfjgaaGreatW.PrintLast Go.Proofs.YthikfifoomfjgaaGreatW.PrintMore
set_option maxRecDepth 100000
set_option linter.unusedVariables false
set_option linter.unusedSimpArgs false
/-- The numbers, the oneofs of the first k slots, the last one first. -/
def numsOf (l : List Slot) : List Int := l.foldl (fun a y => y.no :: a) []
def onesOf (S : Sch) (m : Int) (l : List Slot) : List Int := l.foldl (fun a y => (match S.fl m y.no with | some f => f.f6 | none => 0) :: a) []
theorem numsOf_next (l : List Slot) (y : Slot) : numsOf (l ++ [y]) = y.no :: numsOf l := by simp [numsOf, List.foldl_append]
theorem onesOf_next (S : Sch) (m : Int) (l : List Slot) (y : Slot) {f : S47} (h : S.fl m y.no = some f) : onesOf S m (l ++ [y]) = f.f6 :: onesOf S m l := by simp [onesOf, List.foldl_append, h]
/-- What is left to be looked at, behind k slots that are fine, tells the whole. -/
def Left (S : Sch) (mo : Int → Msg → Bool) (m : Int) (l : List Slot) (k : Nat) : Prop := runOk S mo m l [] [] = runOk S mo m (l.drop k) (numsOf (l.take k)) (onesOf S m (l.take k))
theorem Left.zero (S : Sch) (mo : Int → Msg → Bool) (m : Int) (l : List Slot) : Left S mo m l 0 := rfl
theorem Left.step {S : Sch} {mo : Int → Msg → Bool} {m : Int} {l : List Slot} {k : Nat} (h : Left S mo m l k) (hk : k < l.length) :
    runOk S mo m l [] [] = match S.fl m l[k].no with
      | none => false
      | some f => !decide (l[k].no ∈ numsOf (l.take k)) && (!(decide (0 < f.f6) && decide (f.f6 ∈ onesOf S m (l.take k))) && (slotOk mo f l[k] && runOk S mo m (l.drop (k + 1)) (l[k].no :: numsOf (l.take k)) (f.f6 :: onesOf S m (l.take k)))) := by
  rw [h, List.drop_eq_getElem_cons hk, runOk]
  cases S.fl m l[k].no <;> rfl
theorem Left.next {S : Sch} {mo : Int → Msg → Bool} {m : Int} {l : List Slot} {k : Nat} (h : Left S mo m l k) (hk : k < l.length) {f : S47} (hf : S.fl m l[k].no = some f) (h1 : l[k].no ∉ numsOf (l.take k)) (h2 : ¬ (0 < f.f6 ∧ f.f6 ∈ onesOf S m (l.take k))) (h3 : slotOk mo f l[k] = true) : Left S mo m l (k + 1) := by
  unfold Left
  have e := h.step hk
  rw [hf] at e
  rw [e, List.take_succ_eq_append_getElem hk, numsOf_next, onesOf_next S m _ _ hf]
  have h2' : (decide (0 < f.f6) && decide (f.f6 ∈ onesOf S m (l.take k))) = false := by
    rw [Bool.eq_false_iff]
    intro e
    simp only [Bool.and_eq_true, decide_eq_true_eq] at e
    exact h2 e
  simp only [h2', decide_eq_false h1, h3, Bool.not_false, Bool.true_and]
theorem Left.done {S : Sch} {mo : Int → Msg → Bool} {m : Int} {l : List Slot} (h : Left S mo m l l.length) : runOk S mo m l [] [] = true := by
  rw [h, List.drop_length, runOk]
theorem fl_ok {S : Sch} (h : S.Ok) {m no : Int} {f : S47} (hf : S.fl m no = some f) : okF f ∧ f.f0 = no ∧ 0 ≤ m ∧ m < S.M.length := by
  unfold Sch.fl fieldAt at hf
  split at hf
  · rename_i hm
    have hmem := List.mem_of_find?_eq_some hf
    have hp := List.find?_some hf
    refine ⟨?_, by simpa [PA.isNo] using hp, hm⟩
    have hlt : m.toNat < S.M.length := by omega
    have e : rd_T58 S.M m = S.M[m.toNat] := by
      unfold rd_T58
      rw [List.getD_eq_getElem?_getD, List.getElem?_eq_getElem hlt]; rfl
    rw [e] at hmem
    exact h _ (List.getElem_mem hlt) _ hmem
  · cases hf
theorem NumSet.drew {b n : Nat} {l : List Int} {w : World} (h : NumSet b n l w) : NumSet b n l w.drew := by
  obtain ⟨D, h1, h2⟩ := h
  exact ⟨D, h1.drew, h2⟩
set_option maxHeartbeats 8000000 in
theorem msg_step (S : Sch) (hF : S.Ok) (n L : Nat) (hL : L ≤ 1048576) (hm : MsgC S n L) (w : World) (hS : S.At w) (m : Int) (cs : List Value) (x : Msg) (hx : RMsg L 0 w (n + 1) cs x) :
    Calls Tryz.prog 36 #[.agg S.cells, .int .i64 m, .agg cs.toArray] w fun e w' => e = .returned (.bool (msgOk S (n + 1) m x)) ∧ Below w.heap.size w w' := by
  obtain ⟨c, rfl, h4⟩ := hx
  have H4 := Lib.hid h4
  have hlen := h4.len
  obtain ⟨a1, cap1, rfl, q0, q1, q2, -, -⟩ := h4
  unfold maxLen at q2
  have HSA := Lib.hid hS
  have HSL := Lib.hid (fun w' (hb : Below w.heap.size w w') f cs y h => ty_slot S n L hL hm w' (hS.below hb) f cs y h)
  have HBY := Lib.hid (fun w' (hb : Below w.heap.size w w') no => S.by_ w' (hS.below hb) m no)
  clear hS hm
  have hmm := @run_makeMap Tryz.prog
  unfold Sch.cells at *
  go_enter Tryz.func36, Tryz.ntmps36
  go_wp2_with fail
  have HB0 := Lib.hid (((al2 w (.cells #[.slice S.A0 S.M.length S.c0, .slice S.A1 S.E.length S.c1] 62) (.cells #[.slice a1 x.f.length cap1] 28)).nx (al1 _ (.map #[] 0))).nx (al1 _ (.map #[] 0)))
  obtain ⟨w2, hw2⟩ : ∃ w2, w2 = (w.alloc (.cells #[.slice S.A0 S.M.length S.c0, .slice S.A1 S.E.length S.c1] 62)).alloc (.cells #[.slice a1 x.f.length cap1] 28) := ⟨_, rfl⟩
  have hz2 : w2.heap.size = w.heap.size + 1 + 1 := by rw [hw2]; simp
  have n7 := (NumSet.new w2).below (al1 _ (.map #[] 0))
  have n8 := NumSet.new (w2.alloc (.map #[] 0))
  rw [show (w2.alloc (.map #[] 0)).heap.size = w.heap.size + 1 + 1 + 1 by simp [hz2]] at n8
  rw [hz2] at n7
  have e0 : ((w2.alloc (.map #[] 0)).alloc (.map #[] 0)).cell? ⟨w.heap.size, 0, none⟩ = some (.slice S.A0 S.M.length S.c0) := by rw [hw2]; simp [go_sem]
  have e1 : ((w2.alloc (.map #[] 0)).alloc (.map #[] 0)).cell? ⟨w.heap.size, 1, none⟩ = some (.slice S.A1 S.E.length S.c1) := by rw [hw2]; simp [go_sem]
  rw [← hw2] at HB0 ⊢
  have N7 := Lib.hid n7
  have N8 := Lib.hid n8
  have E0 := Lib.hid e0
  have E1 := Lib.hid e1
  clear hw2 hz2 n7 n8 e0 e1
  generalize (w2.alloc (.map #[] 0)).alloc (.map #[] 0) = w1 at *
  clear w2
  go_loopw [18] (fun iv wr => ∃ k : Nat, k ≤ x.f.length ∧ iv = .int .i64 k ∧ Hid (Left S (msgOk S n) m x.f k) ∧ Hid (NumSet (w.heap.size + 1 + 1) k (numsOf (x.f.take k)) wr) ∧ Hid (NumSet (w.heap.size + 1 + 1 + 1) k (onesOf S m (x.f.take k)) wr) ∧ Hid (wr.cell? ⟨w.heap.size, 0, none⟩ = some (.slice S.A0 S.M.length S.c0)) ∧ Hid (wr.cell? ⟨w.heap.size, 1, none⟩ = some (.slice S.A1 S.E.length S.c1)) ∧ Hid (Below w.heap.size w wr)) (fun iv _ => x.f.length - (intOf iv).toNat)
  case atStart => exact ⟨0, by omega, rfl, Lib.hid (Left.zero _ _ _ _), N7, N8, E0, E1, HB0⟩
  case round =>
    clear N7 N8 E0 E1 HB0
    obtain ⟨k, hk, rfl, HLE, N7, N8, E0, E1, HB⟩ := hrel
    obtain ⟨wA, rfl⟩ : ∃ wA, wA = wr := ⟨_, rfl⟩
    have e0 := E0.out
    have e1 := E1.out
    have le := block_lt_of_cell e0
    by_cases hlt : k < x.f.length
    · obtain ⟨bx, ox, c0, c1, c2, e2, -, m0, m1, m2, z0, z1, z2, rx⟩ := (H4.out.imp (R' := RSlot L 0 wA (RMsg L 0 wA n)) HB.out fun _ _ _ h => h.below HB.out).get3 (rslot_three L 0 n) k hlt
      cases e2
      have RX := Lib.hid rx
      obtain ⟨d1, d2, e, hno1, hno2, r3, r4⟩ := rx
      cases e
      obtain ⟨a3, cap3, rfl, -⟩ := r3
      obtain ⟨a4, cap4, rfl, -⟩ := r4
      have bl := block_lt_of_cell m0
      have HST := Lib.hid (HLE.out.step hlt)
      have HNX := Lib.hid (fun f => HLE.out.next hlt (f := f))
      have HT1 : Hid (numsOf (x.f.take (k + 1)) = x.f[k].no :: numsOf (x.f.take k)) := Lib.hid (by rw [List.take_succ_eq_append_getElem hlt, numsOf_next])
      have HT2 : Hid (∀ f, S.fl m x.f[k].no = some f → onesOf S m (x.f.take (k + 1)) = f.f6 :: onesOf S m (x.f.take k)) := Lib.hid (fun f hf => by rw [List.take_succ_eq_append_getElem hlt, onesOf_next S m _ _ hf])
      generalize x.f[k] = y at *
      have A10 := Lib.hid (al1 wA (.cells #[.int .i64 y.no, .slice a3 y.k.length cap3, .slice a4 y.v.length cap4] 35))
      have HC := Lib.hid (HBY.out _ (HB.out.nx A10.out) y.no)
      go_wp2_with fail
      refine HC.out.mono ?_; rintro e wB ⟨⟨r, hr, rfl⟩, bB⟩
      have BB := Lib.hid (A10.out.nx bB)
      have y7 := N7.out.lt
      have y8 := N8.out.lt
      have yB := BB.out.size
      have P10 := Lib.hid ((Box3.new wA (.int .i64 y.no) (.slice a3 y.k.length cap3) (.slice a4 y.v.length cap4) 35).below bB)
      have N7b := Lib.hid (N7.out.below BB.out)
      have N8b := Lib.hid (N8.out.below BB.out)
      have E0b := Lib.hid ((BB.out.cell (block_lt_of_cell e0)).trans e0)
      have E1b := Lib.hid ((BB.out.cell (block_lt_of_cell e1)).trans e1)
      have HBb := Lib.hid (HB.out.nx BB.out)
      have RXb := Lib.hid (RX.out.below BB.out)
      clear bB N7 N8 E0 E1 HB RX e0 e1 le m0 m1 m2 bl BB A10 HC
      cases hfl : S.fl m y.no with
      | none =>
        have HR := Lib.hid (show msgOk S (n + 1) m x = false by rw [msgOk, HST.out, hfl]; rfl)
        rw [hfl] at hr
        subst hr
        clear HST HNX HT1 HT2 hfl
        obtain ⟨l10, p0, p1, p2⟩ := P10.out
        go_wp2_with (with_reducible refine wpList_store_new rfl (.tmp 11) (.tmp 29) rfl rfl rfl (by kernel_rfl) (by simp) (by simp [Value.oneCell']) ?_)
        exact ⟨rfl, _, results_tmp (t := 6) rfl _ _ _, by rw [HR.out]; rfl, HBb.out.nx (al1 _ _)⟩
      | some f =>
        obtain ⟨hfo, -, -⟩ := fl_ok hF hfl
        have hI6 := hfo.2.2.2.2.1
        have hr' : r = (f.f0, f.f1, f.f2, f.f3, f.f4, f.f5, f.f6, true) := by rw [hr, hfl]; rfl
        subst hr'
        dsimp only
        clear hr
        obtain ⟨l10, p0, p1, p2⟩ := P10.out
        have AC := Lib.hid (al1 wB (.cells #[.int .i64 f.f0, .string f.f1, .int .i64 f.f2, .int .i64 f.f3, .bool f.f4, .int .i64 f.f5, .int .i64 f.f6] 47))
        have hl1 := (N7b.out.below AC.out).lookup (x := y.no) ⟨hno1, hno2⟩
        have hl2 := (N8b.out.below AC.out).lookup (x := f.f6) hI6
        have e0 := E0b.out
        have e1 := E1b.out
        have le := block_lt_of_cell e0
        by_cases hn : y.no ∈ numsOf (x.f.take k)
        · have HR := Lib.hid (show msgOk S (n + 1) m x = false by rw [msgOk, HST.out, hfl]; simp [hn])
          rw [decide_eq_true hn] at hl1
          clear HST HNX HT1 HT2 hfl hn hl2
          go_wp2_with (with_reducible refine wpList_store_new rfl (.tmp 11) (.tmp 29) rfl rfl rfl (by kernel_rfl) (by simp) (by simp [Value.oneCell']) ?_)
          exact ⟨rfl, _, results_tmp (t := 6) rfl _ _ _, by rw [HR.out]; rfl, HBb.out.nx AC.out⟩
        · rw [decide_eq_false hn] at hl1
          by_cases hone : 0 < f.f6
          · have dg : decide ((f.f6 : Int) > 0) = true := decide_eq_true hone
            by_cases hmem : f.f6 ∈ onesOf S m (x.f.take k)
            · have HR := Lib.hid (show msgOk S (n + 1) m x = false by rw [msgOk, HST.out, hfl]; simp [hone, hmem])
              rw [decide_eq_true hmem] at hl2
              clear HST HNX HT1 HT2 hfl hn hone hmem
              go_wp2_with (with_reducible refine wpList_store_new rfl (.tmp 11) (.tmp 29) rfl rfl rfl (by kernel_rfl) (by simp) (by simp [Value.oneCell']) ?_)
              exact ⟨rfl, _, results_tmp (t := 6) rfl _ _ _, by rw [HR.out]; rfl, HBb.out.nx AC.out⟩
            · have hno : ¬ (0 < f.f6 ∧ f.f6 ∈ onesOf S m (x.f.take k)) := fun h => hmem h.2
              rw [decide_eq_false hmem] at hl2
              clear hmem
              have HC := Lib.hid (HSL.out _ (HBb.out.nx AC.out) f _ y (RXb.out.below AC.out))
              cases hq : slotOk (msgOk S n) f y with
              | false =>
                have HR := Lib.hid (show msgOk S (n + 1) m x = false by rw [msgOk, HST.out, hfl]; simp [hq])
                rw [hq] at HC
                clear HST HNX HT1 HT2 hfl hn hone hq hno
                go_wp2_with (with_reducible refine wpList_store_new rfl (.tmp 11) (.tmp 29) rfl rfl rfl (by kernel_rfl) (by simp) (by simp [Value.oneCell']) ?_)
                refine HC.out.mono ?_; rintro e wD ⟨rfl, bD⟩
                go_wp2_with fail
                exact ⟨rfl, _, results_tmp (t := 6) rfl _ _ _, by rw [HR.out]; rfl, HBb.out.nx (AC.out.nx bD)⟩
              | true =>
                have HLN := Lib.hid (HNX.out f hfl hn hno hq)
                have HT2' := Lib.hid (HT2.out f hfl)
                rw [hq] at HC
                clear HST HNX HT2 hfl hn hone hq hno
                go_wp2_with (with_reducible refine wpList_store_new rfl (.tmp 11) (.tmp 29) rfl rfl rfl (by kernel_rfl) (by simp) (by simp [Value.oneCell']) ?_)
                refine HC.out.mono ?_; rintro e wD ⟨rfl, bD⟩
                have BD := Lib.hid (AC.out.nx bD)
                have q10 := (BD.out.cell (block_lt_of_cell p0)).trans p0
                have q11 : wD.cell? ⟨wB.heap.size, 6, none⟩ = some (.int .i64 f.f6) := (bD.cell (p := ⟨wB.heap.size, 6, none⟩) (by simp)).trans (by simp [go_sem])
                have N7d := (N7b.out.below BD.out).drew
                have N8d := (N8b.out.below BD.out).drew
                have b7 := N7d.lt
                have b8 := N8d.lt
                obtain ⟨v1, hu1, M7, g1⟩ := N7d.update (by unfold maxLen; omega) (x := y.no) ⟨hno1, hno2⟩
                obtain ⟨v2, hu2, M8, g2⟩ := (N8d.kept g1 (by simp)).update (by unfold maxLen; omega) (x := f.f6) hI6
                have M7' := M7.kept g2 (by simp)
                have HBD := HBb.out.nx BD.out
                have HB1 := (HBD.drew).grown g1 (by have := HBD.size; simp; omega) (fun k hk => by cases hk; omega)
                have HB2 := Lib.hid (HB1.grown g2 HB1.size (fun k hk => by cases hk; omega))
                have l10d := block_lt_of_cell q10
                have l11d := block_lt_of_cell q11
                have x10 : wA.heap.size ≠ w.heap.size + 1 + 1 ∧ wA.heap.size ≠ w.heap.size + 1 + 1 + 1 := ⟨by omega, by omega⟩
                have x11 : wB.heap.size ≠ w.heap.size + 1 + 1 ∧ wB.heap.size ≠ w.heap.size + 1 + 1 + 1 := ⟨by omega, by omega⟩
                have r10 : v1.cell? ⟨wA.heap.size, 0, none⟩ = some (.int .i64 y.no) := g1.cell (by simpa using q10) (fun e => x10.1 (by injection e))
                have r11 : v1.cell? ⟨wB.heap.size, 6, none⟩ = some (.int .i64 f.f6) := g1.cell (by simpa using q11) (fun e => x11.1 (by injection e))
                have z1 := g1.size
                have E0d := BD.out.cell (block_lt_of_cell e0) |>.trans e0
                have E1d := BD.out.cell (block_lt_of_cell e1) |>.trans e1
                have E0' := Lib.hid (g2.cell (g1.cell (show wD.drew.cell? ⟨w.heap.size, 0, none⟩ = _ by simpa using E0d) (fun e => by injection e with e; simp only at e; omega)) (fun e => by injection e with e; simp only at e; omega))
                have E1' := Lib.hid (g2.cell (g1.cell (show wD.drew.cell? ⟨w.heap.size, 1, none⟩ = _ by simpa using E1d) (fun e => by injection e with e; simp only at e; omega)) (fun e => by injection e with e; simp only at e; omega))
                have M7h := Lib.hid M7'
                have M8h := Lib.hid M8
                clear E0d E1d M7 M7' M8 N7d N8d HB1 HBD g1 g2 bD l10 p0 p1 p2 e0 e1 le hl1 hl2
                go_upto_region 8 with fail
                go_region
                all_goals (
                  go_wp2_with fail
                  refine ⟨⟨k + 1, by omega, rfl, HLN, Lib.hid (by rw [HT1.out]; exact M7h.out), Lib.hid (by rw [HT2'.out]; exact M8h.out), E0', E1', HB2⟩, ?_⟩
                  simp only [intOf]; omega)
          · have dg : decide ((f.f6 : Int) > 0) = false := decide_eq_false hone
            have hno : ¬ (0 < f.f6 ∧ f.f6 ∈ onesOf S m (x.f.take k)) := fun h => hone h.1
            clear hl2
            have hl2 := trivial
            have HC := Lib.hid (HSL.out _ (HBb.out.nx AC.out) f _ y (RXb.out.below AC.out))
            cases hq : slotOk (msgOk S n) f y with
            | false =>
              have HR := Lib.hid (show msgOk S (n + 1) m x = false by rw [msgOk, HST.out, hfl]; simp [hq])
              rw [hq] at HC
              clear HST HNX HT1 HT2 hfl hn hone hq hno
              go_wp2_with (with_reducible refine wpList_store_new rfl (.tmp 11) (.tmp 29) rfl rfl rfl (by kernel_rfl) (by simp) (by simp [Value.oneCell']) ?_)
              refine HC.out.mono ?_; rintro e wD ⟨rfl, bD⟩
              go_wp2_with fail
              exact ⟨rfl, _, results_tmp (t := 6) rfl _ _ _, by rw [HR.out]; rfl, HBb.out.nx (AC.out.nx bD)⟩
            | true =>
              have HLN := Lib.hid (HNX.out f hfl hn hno hq)
              have HT2' := Lib.hid (HT2.out f hfl)
              rw [hq] at HC
              clear HST HNX HT2 hfl hn hone hq hno
              go_wp2_with (with_reducible refine wpList_store_new rfl (.tmp 11) (.tmp 29) rfl rfl rfl (by kernel_rfl) (by simp) (by simp [Value.oneCell']) ?_)
              refine HC.out.mono ?_; rintro e wD ⟨rfl, bD⟩
              have BD := Lib.hid (AC.out.nx bD)
              have q10 := (BD.out.cell (block_lt_of_cell p0)).trans p0
              have q11 : wD.cell? ⟨wB.heap.size, 6, none⟩ = some (.int .i64 f.f6) := (bD.cell (p := ⟨wB.heap.size, 6, none⟩) (by simp)).trans (by simp [go_sem])
              have N7d := (N7b.out.below BD.out).drew
              have N8d := (N8b.out.below BD.out).drew
              have b7 := N7d.lt
              have b8 := N8d.lt
              obtain ⟨v1, hu1, M7, g1⟩ := N7d.update (by unfold maxLen; omega) (x := y.no) ⟨hno1, hno2⟩
              obtain ⟨v2, hu2, M8, g2⟩ := (N8d.kept g1 (by simp)).update (by unfold maxLen; omega) (x := f.f6) hI6
              have M7' := M7.kept g2 (by simp)
              have HBD := HBb.out.nx BD.out
              have HB1 := (HBD.drew).grown g1 (by have := HBD.size; simp; omega) (fun k hk => by cases hk; omega)
              have HB2 := Lib.hid (HB1.grown g2 HB1.size (fun k hk => by cases hk; omega))
              have l10d := block_lt_of_cell q10
              have l11d := block_lt_of_cell q11
              have x10 : wA.heap.size ≠ w.heap.size + 1 + 1 ∧ wA.heap.size ≠ w.heap.size + 1 + 1 + 1 := ⟨by omega, by omega⟩
              have x11 : wB.heap.size ≠ w.heap.size + 1 + 1 ∧ wB.heap.size ≠ w.heap.size + 1 + 1 + 1 := ⟨by omega, by omega⟩
              have r10 : v1.cell? ⟨wA.heap.size, 0, none⟩ = some (.int .i64 y.no) := g1.cell (by simpa using q10) (fun e => x10.1 (by injection e))
              have r11 : v1.cell? ⟨wB.heap.size, 6, none⟩ = some (.int .i64 f.f6) := g1.cell (by simpa using q11) (fun e => x11.1 (by injection e))
              have z1 := g1.size
              have E0d := BD.out.cell (block_lt_of_cell e0) |>.trans e0
              have E1d := BD.out.cell (block_lt_of_cell e1) |>.trans e1
              have E0' := Lib.hid (g2.cell (g1.cell (show wD.drew.cell? ⟨w.heap.size, 0, none⟩ = _ by simpa using E0d) (fun e => by injection e with e; simp only at e; omega)) (fun e => by injection e with e; simp only at e; omega))
              have E1' := Lib.hid (g2.cell (g1.cell (show wD.drew.cell? ⟨w.heap.size, 1, none⟩ = _ by simpa using E1d) (fun e => by injection e with e; simp only at e; omega)) (fun e => by injection e with e; simp only at e; omega))
              have M7h := Lib.hid M7'
              have M8h := Lib.hid M8
              clear E0d E1d M7 M7' M8 N7d N8d HB1 HBD g1 g2 bD l10 p0 p1 p2 e0 e1 le hl1 hl2
              go_upto_region 8 with fail
              go_region
              all_goals (
                go_wp2_with fail
                refine ⟨⟨k + 1, by omega, rfl, HLN, Lib.hid (by rw [HT1.out]; exact M7h.out), Lib.hid (by rw [HT2'.out]; exact M8h.out), E0', E1', HB2⟩, ?_⟩
                simp only [intOf]; omega)
    · obtain rfl : k = x.f.length := by omega
      have HRU := Lib.hid HLE.out.done
      by_cases hm0 : 0 ≤ m
      · have g0 : decide ((m : Int) ≥ 0) = true := decide_eq_true hm0
        have HR := Lib.hid (show msgOk S (n + 1) m x = decide (m < S.M.length) by rw [msgOk, HRU.out, decide_eq_true hm0]; simp)
        clear hm0
        go_wp2_with fail
        exact ⟨rfl, _, results_tmp (t := 6) rfl _ _ _, by rw [HR.out]; rfl, HB.out⟩
      · have g0 : decide ((m : Int) ≥ 0) = false := decide_eq_false hm0
        have HR := Lib.hid (show msgOk S (n + 1) m x = false by rw [msgOk, decide_eq_false hm0]; simp)
        clear hm0
        go_wp2_with fail
        exact ⟨rfl, _, results_tmp (t := 6) rfl _ _ _, by rw [HR.out]; rfl, HB.out⟩
/-- (checker).msg. -/
theorem ty_msg (S : Sch) (hF : S.Ok) (L : Nat) (hL : L ≤ 1048576) : ∀ n, MsgC S n L
  | 0 => fun w cs x m _ h => h.elim
  | n + 1 => fun w cs x m hS hx => msg_step S hF n L hL (ty_msg S hF L hL n) w hS m cs x hx
end Go.Proofs.YthikfifoomfjgaaGreat
