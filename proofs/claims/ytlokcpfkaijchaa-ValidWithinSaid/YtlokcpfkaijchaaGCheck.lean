/- Contract of valid.Check: a loop by goto. -/
import Derived.Test.YtlokcpfkaijchaaGStepV
import Derived.Test.YtlokcpfkaijchaaPAx4
import Derived.ScopeJumps
namespace Go
theorem least_ghost {p : Nat → Prop} (h : ∃ n, p n) : ∃ n, p n ∧ ∀ m, p m → n ≤ m := by
  obtain ⟨n, hn⟩ := h
  induction n using Nat.strongRecOn with
  | _ n ih =>
    by_cases h : ∃ m, m < n ∧ p m
    · obtain ⟨m, hm, hp⟩ := h
      exact ih m hm hp
    · exact ⟨n, hn, fun m hm => Nat.le_of_not_lt fun hl => h ⟨m, hl, hm⟩⟩
/-- A scope that jumps back to one label: what holds at a jump bears a number, and each pass lowers it. -/
theorem wp_scope_ghost {P : Program} {a : Act} {w : World} {Q : Exit → Act → World → Prop} {c rest : Code} (l : Nat) (J : Nat → Act → World → Prop) (hf : findLabel c l = some rest)
    (first : c.wp P (Exit.jump l (fun a w => ∃ n, J n a w) Q) a w)
    (pass : ∀ n a w, J n a w → rest.wp P (Exit.jump l (fun a' w' => ∃ m, m < n ∧ J m a' w') Q) a w) : (Code.scope c).wp P Q a w := by
  classical
  refine wp_scope_jumps l (fun a w => ∃ n, J n a w) (fun a w => if h : ∃ n, J n a w then Classical.choose (least_ghost h) else 0) hf first ?_
  intro a w h
  have hs := Classical.choose_spec (least_ghost h)
  refine Code.wp_mono ?_ (pass _ a w hs.1)
  intro e a' w' hq
  cases e <;> try exact hq
  obtain ⟨hl, m, hm, hj⟩ := hq
  refine ⟨hl, ⟨m, hj⟩, ?_⟩
  have h' : ∃ n, J n a' w' := ⟨m, hj⟩
  show (if h : ∃ n, J n a' w' then Classical.choose (least_ghost h) else 0) < (if h : ∃ n, J n a w then Classical.choose (least_ghost h) else 0)
  rw [dif_pos h', dif_pos h]
  exact Nat.lt_of_le_of_lt ((Classical.choose_spec (least_ghost h')).2 m hj) hm
end Go
namespace Go.Proofs.Ytlokcpfkaijchaa.PA
open Go.RowKit Go.Proofs.YtlokcpfkaijchaaW.PrintWords Go.Proofs.YtlokcpfkaijchaaW.PrintLast Go.Proofs.YtlokcpfkaijchaaW.PrintMore
set_option linter.unusedVariables false
set_option linter.unusedSimpArgs false
/-- How deep the last frame lies. -/
def deepTop (l : List S40) (deep : Int) : Int := match l.getLast? with | none => deep | some y => max deep y.f5
theorem deepTop_snoc (l : List S40) (y : S40) (deep : Int) : deepTop (l ++ [y]) deep = max deep y.f5 := by simp [deepTop]
/-- The steps, one behind the other. -/
def checkL (M : List S77) (E : List S81) (b : List Int) : Nat → List S40 → Int → Option (Int × Int)
  | 0, _, _ => none
  | n + 1, l, deep => match l.getLast? with
    | none => some (deep, 0)
    | some x => if l.length ≤ 999999 then (stepF 20 M E b l.dropLast x).bind fun r => if r.2 = 0 then checkL M E b n r.1 (deepTop r.1 deep) else some (deep, r.2) else none
theorem checkL_hi {M : List S77} {E : List S81} {b : List Int} {n : Nat} {l : List S40} {y : S40} {deep : Int} {r : Option (Int × Int)} (hd : deep ≤ y.f5) (h : checkL M E b n (l ++ [y]) (deepTop (l ++ [y]) deep) = r) : checkL M E b n (l ++ [y]) y.f5 = r := by
  rw [deepTop_snoc, Int.max_eq_right hd] at h
  exact h
theorem checkL_lo {M : List S77} {E : List S81} {b : List Int} {n : Nat} {l : List S40} {y : S40} {deep : Int} {r : Option (Int × Int)} (hd : y.f5 ≤ deep) (h : checkL M E b n (l ++ [y]) (deepTop (l ++ [y]) deep) = r) : checkL M E b n (l ++ [y]) deep = r := by
  rw [deepTop_snoc, Int.max_eq_left hd] at h
  exact h
def valid_Check.f (l0_0 : List (S77)) (l0_1 : List (S81)) (a1 : Int) (l2 : List Int) : Option (Int × Int) :=
  (table_May.f l0_0 l0_1).bind fun m => if m = true then (if a1 < 0 ∨ (l0_0.length : Int) ≤ a1 then some (0, 1) else checkL l0_0 l0_1 l2 (2 * l2.length + 3) [⟨false, a1, ⟨0, (⟨#[]⟩ : ByteArray), 0, 0, false, 0, 0⟩, 0, (l2.length : Int), 1⟩] 1) else some (0, 1)
set_option maxHeartbeats 4000000 in
set_option maxRecDepth 100000 in
theorem valid_Check.calls (A0_0 : Option Addr) (c0_0 : Nat) (l0_0 : List (S77)) (A0_1 : Option Addr) (c0_1 : Nat) (l0_1 : List (S81)) (a1 : Int) (A2 : Option Addr) (c2 : Nat) (l2 : List Int) (r1 : Int) (r2 : Int) (w : World) (hr0_0 : Kd.C k77 w A0_0 l0_0.length l0_0) (hc0_0 : l0_0.length ≤ c0_0) (hr0_1 : Kd.C k81 w A0_1 l0_1.length l0_1) (hc0_1 : l0_1.length ≤ c0_1) (hr2 : Kd.C (Kd.int .u8) w A2 l2.length l2) (hc2 : l2.length ≤ c2) (h : valid_Check.f l0_0 l0_1 a1 l2 = some (r1, r2)) :
    Calls Try.prog 12 #[.agg #[.slice A0_0 l0_0.length c0_0, .slice A0_1 l0_1.length c0_1], .int .i64 a1, .slice A2 l2.length c2] w fun e w' => e = .returned (.tuple #[.int .i64 r1, .int .i64 r2]) ∧ Below w.heap.size w w' := by
  have HR0 := Lib.hid hr0_0
  have HC0 := Lib.hid hc0_0
  have HR1 := Lib.hid hr0_1
  have HC1 := Lib.hid hc0_1
  have HRB := Lib.hid hr2
  have HCB := Lib.hid hc2
  have hml : l0_0.length ≤ 9223372036854775807 := Kd.C_max hr0_0
  have hbl : l2.length ≤ 9223372036854775807 := Kd.C_max hr2
  clear hr0_0 hc0_0 hr0_1 hc0_1 hr2 hc2
  unfold valid_Check.f at h
  cases hm : table_May.f l0_0 l0_1 with
  | none => rw [hm] at h; cases h
  | some m =>
    rw [hm] at h
    simp only [Option.bind_some] at h
    have HM := Lib.hid (fun (w1 : World) (hb : Below w.heap.size w w1) => table_May.calls A0_0 c0_0 l0_0 A0_1 c0_1 l0_1 m w1 (Kd.C_below HR0.out hb) HC0.out (Kd.C_below HR1.out hb) HC1.out hm)
    have HS := Lib.hid (fun (w1 : World) (hb : Below w.heap.size w w1) => valid_Start.calls a1 A2 c2 l2 _ w1 (Kd.C_below HRB.out hb) HCB.out rfl)
    clear hm
    cases m with
    | false =>
      obtain ⟨rfl, rfl⟩ : 0 = r1 ∧ 1 = r2 := by simpa using h
      clear h
      go_enter Try.func12, Try.ntmps12
      go_wp2
      go_step3
      go_wp2_with (go_at_call 27; (with_reducible refine (HM.out _ (al1 _ _)).mono ?_); rintro e w2 ⟨rfl, b1⟩; have BB := Aside0.mk b1; have bk := blk_below (heap_alloc_last _ _) b1; have s0 : w2.cell? ⟨w.heap.size, 0, none⟩ = some (.slice A0_0 l0_0.length c0_0) := (blk_cell bk 0).trans rfl; have lt2 := blk_lt bk; clear b1 bk)
      try rw [Exit.noGoto_ret]
      go_ret2
      exact ⟨rfl, (al1 _ _).nx BB.out⟩
    | true =>
      have HS := Lib.hid (fun (w1 : World) (hb : Below w.heap.size w w1) => valid_Start.calls a1 A2 c2 l2 _ w1 (Kd.C_below HRB.out hb) HCB.out rfl)
      rw [if_pos rfl] at h
      by_cases hin : a1 < 0 ∨ (l0_0.length : Int) ≤ a1
      · rw [if_pos hin] at h
        obtain ⟨rfl, rfl⟩ : 0 = r1 ∧ 1 = r2 := by simpa using h
        clear h
        rcases Classical.em (a1 < 0) with hn | hn
        · have d1 : decide (a1 < 0) = true := by simpa using hn
          clear hin
          go_enter Try.func12, Try.ntmps12
          go_wp2
          go_step3
          go_wp2_with (go_at_call 27; (with_reducible refine (HM.out _ (al1 _ _)).mono ?_); rintro e w2 ⟨rfl, b1⟩; have BB := Aside0.mk b1; have bk := blk_below (heap_alloc_last _ _) b1; have s0 : w2.cell? ⟨w.heap.size, 0, none⟩ = some (.slice A0_0 l0_0.length c0_0) := (blk_cell bk 0).trans rfl; have lt2 := blk_lt bk; clear b1 bk)
          try rw [Exit.noGoto_ret]
          go_ret2
          exact ⟨rfl, (al1 _ _).nx BB.out⟩
        · have d1 : decide (a1 < 0) = false := by simpa using hn
          have d2 : decide ((l0_0.length : Int) ≤ a1) = true := by simp; omega
          clear hin
          go_enter Try.func12, Try.ntmps12
          go_wp2
          go_step3
          go_wp2_with (go_at_call 27; (with_reducible refine (HM.out _ (al1 _ _)).mono ?_); rintro e w2 ⟨rfl, b1⟩; have BB := Aside0.mk b1; have bk := blk_below (heap_alloc_last _ _) b1; have s0 : w2.cell? ⟨w.heap.size, 0, none⟩ = some (.slice A0_0 l0_0.length c0_0) := (blk_cell bk 0).trans rfl; have lt2 := blk_lt bk; clear b1 bk)
          try rw [Exit.noGoto_ret]
          go_ret2
          exact ⟨rfl, (al1 _ _).nx BB.out⟩
      · rw [if_neg hin] at h
        have d1 : decide (a1 < 0) = false := by simp; omega
        have d2 : decide ((l0_0.length : Int) ≤ a1) = false := by simp; omega
        have HCK0 := Lib.hid h
        clear hin h
        go_enter Try.func12, Try.ntmps12
        go_wp2
        refine wp_scope_ghost 0 (fun n a' w' => ∃ (v : Value) (l : List S40) (deep : Int) (u4 u5 u6 u7 u10 u11 u12 u13 u14 u15 u16 u17 u18 u19 u20 u21 u22 u23 u24 u25 u26 u27 u28 u29 u30 u31 u32 u33 u34 u35 u36 u37 u38 u39 u40 u41 u42 u43 u44 u45 u46 u47 u48 u49 u50 u51 u52 u53 u54 u55 u56 : Value), a' = { tmps := #[.agg #[.slice A0_0 l0_0.length c0_0, .slice A0_1 l0_1.length c0_1], .int .i64 a1, .slice A2 l2.length c2, .pointer (some ⟨w.heap.size, 0, none⟩), u4, u5, u6, u7, v, .int .i64 deep, u10, u11, u12, u13, u14, u15, u16, u17, u18, u19, u20, u21, u22, u23, u24, u25, u26, u27, u28, u29, u30, u31, u32, u33, u34, u35, u36, u37, u38, u39, u40, u41, u42, u43, u44, u45, u46, u47, u48, u49, u50, u51, u52, u53, u54, u55, u56], defers := [] } ∧ Aside0 (Kd.R k40 40 w' (w.alloc (.cells #[.slice A0_0 l0_0.length c0_0, .slice A0_1 l0_1.length c0_1] 25)).heap.size (fun _ => True) v l) ∧ Aside0 (Below (w.alloc (.cells #[.slice A0_0 l0_0.length c0_0, .slice A0_1 l0_1.length c0_1] 25)).heap.size (w.alloc (.cells #[.slice A0_0 l0_0.length c0_0, .slice A0_1 l0_1.length c0_1] 25)) w') ∧ Aside0 (checkL l0_0 l0_1 l2 n l deep = some (r1, r2))) rfl ?first ?pass
        case first =>
          go_wp2_with (first | (go_at_call 27; (with_reducible refine (HM.out _ (al1 _ _)).mono ?_); rintro e w2 ⟨rfl, b1⟩; have BB := Aside0.mk b1; have bk := blk_below (heap_alloc_last _ _) b1; have s0 : w2.cell? ⟨w.heap.size, 0, none⟩ = some (.slice A0_0 l0_0.length c0_0) := (blk_cell bk 0).trans rfl; have lt2 := blk_lt bk; clear b1 bk) | (go_at_call 14; (with_reducible refine (HS.out _ ((al1 _ _).nx BB.out)).mono ?_); rintro e w3 ⟨v, rfl, h3, b3⟩; have HV := Aside0.mk (Kd.R_lower h3 BB.out.size); have BB3 := Aside0.mk (BB.out.nx b3); clear h3 b3))
          go_step3
          clear BB
          have BB := BB3
          clear BB3
          have HCK : Aside0 (checkL l0_0 l0_1 l2 (2 * l2.length + 2 + 1) [⟨false, a1, ⟨0, (⟨#[]⟩ : ByteArray), 0, 0, false, 0, 0⟩, 0, (l2.length : Int), 1⟩] 1 = some (r1, r2)) := Aside0.mk HCK0.out
          clear HCK0
          generalize ([⟨false, a1, ⟨0, (⟨#[]⟩ : ByteArray), 0, 0, false, 0, 0⟩, 0, (l2.length : Int), 1⟩] : List S40) = l at *
          generalize 2 * l2.length + 2 = n at *
          by_cases hl : l = []
          · subst hl
            obtain ⟨A5, c5, rfl⟩ := Kd.R_slice HV.out
            have hc : some ((1 : Int), (0 : Int)) = some (r1, r2) := HCK.out
            obtain ⟨rfl, rfl⟩ : (1 : Int) = r1 ∧ 0 = r2 := by simpa using hc
            clear hc
            go_wp2_with fail
            simp only [Exit.jump]
            go_ret2
            exact ⟨rfl, (al1 _ _).nx BB.out⟩
          · obtain ⟨l, x, rfl⟩ : ∃ l0 x, l = l0 ++ [x] := ⟨l.dropLast, l.getLast hl, (List.dropLast_concat_getLast hl).symm⟩
            clear hl
            have hck := HCK.out
            unfold checkL at hck
            have hgl : (l ++ [x]).getLast? = some x := by simp
            have hdl : (l ++ [x]).dropLast = l := by simp
            have hlen : (l ++ [x]).length = l.length + 1 := by simp
            rw [hgl, hdl] at hck
            dsimp only at hck
            by_cases hl : (l ++ [x]).length ≤ 999999
            case neg => rw [if_neg hl] at hck; cases hck
            rw [if_pos hl] at hck
            cases hst : stepF 20 l0_0 l0_1 l2 l x with
            | none => rw [hst] at hck; cases hck
            | some r =>
              obtain ⟨l', e⟩ := r
              rw [hst] at hck
              simp only [Option.bind_some] at hck
              have HST := Lib.hid (fun (w1 : World) (v : Value) (hb : Below (w.alloc (.cells #[.slice A0_0 l0_0.length c0_0, .slice A0_1 l0_1.length c0_1] 25)).heap.size (w.alloc (.cells #[.slice A0_0 l0_0.length c0_0, .slice A0_1 l0_1.length c0_1] 25)) w1) (hv : Kd.R k40 40 w1 (w.alloc (.cells #[.slice A0_0 l0_0.length c0_0, .slice A0_1 l0_1.length c0_1] 25)).heap.size (fun _ => True) v (l ++ [x])) => valid_step A0_0 c0_0 l0_0 A0_1 c0_1 l0_1 l2 A2 c2 (w.alloc (.cells #[.slice A0_0 l0_0.length c0_0, .slice A0_1 l0_1.length c0_1] 25)) w1 hb v l x hv (Kd.C_below HR0.out (al1 _ _)) HC0.out (Kd.C_below HR1.out (al1 _ _)) HC1.out (Kd.C_below HRB.out (al1 _ _)) HCB.out (by rw [hlen] at hl; omega) 20 l' e hst)
              obtain ⟨g5, c5, rfl, hgb5, hgl5, cells5, hcells5⟩ := Kd.R_form HV.out (by rw [hlen]; omega)
              rw [hlen] at HV ⊢
              have HL := Lib.hid (show l.length ≤ 999998 by rw [hlen] at hl; omega)
              clear hst hgl hdl hl hcells5 hgb5 hgl5
              have bk := blk_below (heap_alloc_last w _) BB.out
              have s0 : w3.cell? ⟨w.heap.size, 0, none⟩ = some (.slice A0_0 l0_0.length c0_0) := (blk_cell bk 0).trans rfl
              have s1 : w3.cell? ⟨w.heap.size, 1, none⟩ = some (.slice A0_1 l0_1.length c0_1) := (blk_cell bk 1).trans rfl
              have lt1 := blk_lt bk
              clear bk
              by_cases he : e = 0
              · subst he
                rw [if_pos rfl] at hck
                have HCK2 := Aside0.mk hck
                clear hck HCK
                by_cases hl2 : l' = []
                · subst hl2
                  go_upto_region 10 with (go_at_call 28; (with_reducible refine (HST.out _ _ BB.out HV.out).mono ?_); rintro e4 w4 ⟨v4, rfl, h4, b4⟩; have HV5 := Aside0.mk h4; have BB5 := Aside0.mk b4; clear h4 b4)
                  obtain ⟨A6, c6, rfl⟩ := Kd.R_slice HV5.out
                  go_wp2_with fail
                  go_step3
                  refine ⟨rfl, n, ?_⟩
                  exact ⟨_, [], (1 : Int), _, _, _, _, _, _, _, _, _, _, _, _, _, _, _, _, _, _, _, _, _, _, _, _, _, _, _, _, _, _, _, _, _, _, _, _, _, _, _, _, _, _, _, _, _, _, _, _, _, _, _, rfl, HV5, BB5, HCK2⟩
                · obtain ⟨l3, y, rfl⟩ : ∃ l0 x, l' = l0 ++ [x] := ⟨l'.dropLast, l'.getLast hl2, (List.dropLast_concat_getLast hl2).symm⟩
                  clear hl2
                  go_upto_region 10 with (go_at_call 28; (with_reducible refine (HST.out _ _ BB.out HV.out).mono ?_); rintro e4 w4 ⟨v4, rfl, h4, b4⟩; have HV5 := Aside0.mk h4; have BB5 := Aside0.mk b4; clear h4 b4)
                  have hn6 : (l3 ++ [y]).length = l3.length + 1 := by simp
                  obtain ⟨g6, c6, rfl, hgb6, hgl6, cells6, hcells6⟩ := Kd.R_form HV5.out (by rw [hn6]; omega)
                  rw [hn6] at HV5 ⊢
                  have p11 := (top_cells HV5.out).1 11 _ rfl
                  clear hgb6 hcells6
                  have HL6 := Kd.C_max (Kd.R_reads' HV5.out).2.2
                  rw [hn6] at HL6
                  clear hn6
                  go_wp2_with fail
                  all_goals go_step3
                  all_goals refine ⟨rfl, n, ?_⟩
                  all_goals first
                    | exact ⟨_, l3 ++ [y], y.f5, _, _, _, _, _, _, _, _, _, _, _, _, _, _, _, _, _, _, _, _, _, _, _, _, _, _, _, _, _, _, _, _, _, _, _, _, _, _, _, _, _, _, _, _, _, _, _, _, _, _, _, rfl, HV5, BB5, Aside0.mk (checkL_hi (by omega) HCK2.out)⟩
                    | exact ⟨_, l3 ++ [y], (1 : Int), _, _, _, _, _, _, _, _, _, _, _, _, _, _, _, _, _, _, _, _, _, _, _, _, _, _, _, _, _, _, _, _, _, _, _, _, _, _, _, _, _, _, _, _, _, _, _, _, _, _, _, rfl, HV5, BB5, Aside0.mk (checkL_lo (by omega) HCK2.out)⟩
              · rw [if_neg he] at hck
                obtain ⟨rfl, rfl⟩ : (1 : Int) = r1 ∧ e = r2 := by simpa using hck
                have d2 : (e != 0) = true := by simpa using he
                clear hck he HCK
                go_wp2_with (go_at_call 28; (with_reducible refine (HST.out _ _ BB.out HV.out).mono ?_); rintro e4 w4 ⟨v4, rfl, h4, b4⟩; have HV5 := Aside0.mk h4; have BB5 := Aside0.mk b4; clear h4 b4)
                simp only [Exit.jump]
                go_ret2
                exact ⟨rfl, (al1 _ _).nx BB5.out⟩
        case pass =>
          intro n a' w' hj
          obtain ⟨v, l, deep, u4, u5, u6, u7, u10, u11, u12, u13, u14, u15, u16, u17, u18, u19, u20, u21, u22, u23, u24, u25, u26, u27, u28, u29, u30, u31, u32, u33, u34, u35, u36, u37, u38, u39, u40, u41, u42, u43, u44, u45, u46, u47, u48, u49, u50, u51, u52, u53, u54, u55, u56, rfl, HV, BB, HCK⟩ := hj
          cases n with
          | zero => have := HCK.out; simp [checkL] at this
          | succ n =>
            by_cases hl : l = []
            · subst hl
              obtain ⟨A5, c5, rfl⟩ := Kd.R_slice HV.out
              have hc : some (deep, (0 : Int)) = some (r1, r2) := HCK.out
              obtain ⟨rfl, rfl⟩ : deep = r1 ∧ 0 = r2 := by simpa using hc
              clear hc
              go_wp2_with fail
              simp only [Exit.jump]
              go_ret2
              exact ⟨rfl, (al1 _ _).nx BB.out⟩
            · obtain ⟨l, x, rfl⟩ : ∃ l0 x, l = l0 ++ [x] := ⟨l.dropLast, l.getLast hl, (List.dropLast_concat_getLast hl).symm⟩
              clear hl
              have hck := HCK.out
              unfold checkL at hck
              have hgl : (l ++ [x]).getLast? = some x := by simp
              have hdl : (l ++ [x]).dropLast = l := by simp
              have hlen : (l ++ [x]).length = l.length + 1 := by simp
              rw [hgl, hdl] at hck
              dsimp only at hck
              by_cases hl : (l ++ [x]).length ≤ 999999
              case neg => rw [if_neg hl] at hck; cases hck
              rw [if_pos hl] at hck
              cases hst : stepF 20 l0_0 l0_1 l2 l x with
              | none => rw [hst] at hck; cases hck
              | some r =>
                obtain ⟨l', e⟩ := r
                rw [hst] at hck
                simp only [Option.bind_some] at hck
                have HST := Lib.hid (fun (w1 : World) (v : Value) (hb : Below (w.alloc (.cells #[.slice A0_0 l0_0.length c0_0, .slice A0_1 l0_1.length c0_1] 25)).heap.size (w.alloc (.cells #[.slice A0_0 l0_0.length c0_0, .slice A0_1 l0_1.length c0_1] 25)) w1) (hv : Kd.R k40 40 w1 (w.alloc (.cells #[.slice A0_0 l0_0.length c0_0, .slice A0_1 l0_1.length c0_1] 25)).heap.size (fun _ => True) v (l ++ [x])) => valid_step A0_0 c0_0 l0_0 A0_1 c0_1 l0_1 l2 A2 c2 (w.alloc (.cells #[.slice A0_0 l0_0.length c0_0, .slice A0_1 l0_1.length c0_1] 25)) w1 hb v l x hv (Kd.C_below HR0.out (al1 _ _)) HC0.out (Kd.C_below HR1.out (al1 _ _)) HC1.out (Kd.C_below HRB.out (al1 _ _)) HCB.out (by rw [hlen] at hl; omega) 20 l' e hst)
                obtain ⟨g5, c5, rfl, hgb5, hgl5, cells5, hcells5⟩ := Kd.R_form HV.out (by rw [hlen]; omega)
                rw [hlen] at HV ⊢
                have HL := Lib.hid (show l.length ≤ 999998 by rw [hlen] at hl; omega)
                clear hst hgl hdl hl hcells5 hgb5 hgl5
                have bk := blk_below (heap_alloc_last w _) BB.out
                have s0 : w'.cell? ⟨w.heap.size, 0, none⟩ = some (.slice A0_0 l0_0.length c0_0) := (blk_cell bk 0).trans rfl
                have s1 : w'.cell? ⟨w.heap.size, 1, none⟩ = some (.slice A0_1 l0_1.length c0_1) := (blk_cell bk 1).trans rfl
                have lt1 := blk_lt bk
                clear bk
                by_cases he : e = 0
                · subst he
                  rw [if_pos rfl] at hck
                  have HCK2 := Aside0.mk hck
                  clear hck HCK
                  by_cases hl2 : l' = []
                  · subst hl2
                    go_upto_region 10 with (go_at_call 28; (with_reducible refine (HST.out _ _ BB.out HV.out).mono ?_); rintro e4 w4 ⟨v4, rfl, h4, b4⟩; have HV5 := Aside0.mk h4; have BB5 := Aside0.mk b4; clear h4 b4)
                    obtain ⟨A6, c6, rfl⟩ := Kd.R_slice HV5.out
                    go_wp2_with fail
                    go_step3
                    refine ⟨rfl, n, Nat.lt_succ_self n, ?_⟩
                    exact ⟨_, [], deep, _, _, _, _, _, _, _, _, _, _, _, _, _, _, _, _, _, _, _, _, _, _, _, _, _, _, _, _, _, _, _, _, _, _, _, _, _, _, _, _, _, _, _, _, _, _, _, _, _, _, _, rfl, HV5, BB5, HCK2⟩
                  · obtain ⟨l3, y, rfl⟩ : ∃ l0 x, l' = l0 ++ [x] := ⟨l'.dropLast, l'.getLast hl2, (List.dropLast_concat_getLast hl2).symm⟩
                    clear hl2
                    go_upto_region 10 with (go_at_call 28; (with_reducible refine (HST.out _ _ BB.out HV.out).mono ?_); rintro e4 w4 ⟨v4, rfl, h4, b4⟩; have HV5 := Aside0.mk h4; have BB5 := Aside0.mk b4; clear h4 b4)
                    have hn6 : (l3 ++ [y]).length = l3.length + 1 := by simp
                    obtain ⟨g6, c6, rfl, hgb6, hgl6, cells6, hcells6⟩ := Kd.R_form HV5.out (by rw [hn6]; omega)
                    rw [hn6] at HV5 ⊢
                    have p11 := (top_cells HV5.out).1 11 _ rfl
                    clear hgb6 hcells6
                    have HL6 := Kd.C_max (Kd.R_reads' HV5.out).2.2
                    rw [hn6] at HL6
                    clear hn6
                    go_wp2_with fail
                    all_goals go_step3
                    all_goals refine ⟨rfl, n, Nat.lt_succ_self n, ?_⟩
                    all_goals first
                      | exact ⟨_, l3 ++ [y], y.f5, _, _, _, _, _, _, _, _, _, _, _, _, _, _, _, _, _, _, _, _, _, _, _, _, _, _, _, _, _, _, _, _, _, _, _, _, _, _, _, _, _, _, _, _, _, _, _, _, _, _, _, rfl, HV5, BB5, Aside0.mk (checkL_hi (by omega) HCK2.out)⟩
                      | exact ⟨_, l3 ++ [y], deep, _, _, _, _, _, _, _, _, _, _, _, _, _, _, _, _, _, _, _, _, _, _, _, _, _, _, _, _, _, _, _, _, _, _, _, _, _, _, _, _, _, _, _, _, _, _, _, _, _, _, _, rfl, HV5, BB5, Aside0.mk (checkL_lo (by omega) HCK2.out)⟩
                · rw [if_neg he] at hck
                  obtain ⟨rfl, rfl⟩ : deep = r1 ∧ e = r2 := by simpa using hck
                  have d2 : (e != 0) = true := by simpa using he
                  clear hck he HCK
                  go_wp2_with (go_at_call 28; (with_reducible refine (HST.out _ _ BB.out HV.out).mono ?_); rintro e4 w4 ⟨v4, rfl, h4, b4⟩; have HV5 := Aside0.mk h4; have BB5 := Aside0.mk b4; clear h4 b4)
                  simp only [Exit.jump]
                  go_ret2
                  exact ⟨rfl, (al1 _ _).nx BB5.out⟩
end Go.Proofs.Ytlokcpfkaijchaa.PA
