/- Contract of valid.step: the frames behind one record. -/
import Derived.Test.YtlokcpfkaijchaaGDone
import Derived.Test.YtlokcpfkaijchaaPAx9
import Derived.Deep.RegionHeld3
import Derived.Deep.DeepBigQuietO
namespace Go.Proofs.Ytlokcpfkaijchaa.PA
open Go.RowKit Go.Proofs.YtlokcpfkaijchaaW.PrintWords Go.Proofs.YtlokcpfkaijchaaW.PrintLast Go.Proofs.YtlokcpfkaijchaaW.PrintMore
set_option linter.unusedVariables false
set_option linter.unusedSimpArgs false
/-- May a frame not be? -/
abbrev topBad (x : S40) (n : Nat) : Prop := x.f3 < 0 ∨ x.f3 > x.f4 ∨ x.f4 > (n : Int) ∨ x.f5 < 1 ∨ x.f5 > 64
/-- How deep what a record lays on lies. -/
def deepOf (x : S40) (no : Int) : Int := if x.f0 = true ∧ no = 2 ∧ x.f2.f2 = 9 then x.f5 - 1 else x.f5
/-- The frames behind a step, and what is wrong. -/
def stepF (k : Nat) (M : List S77) (E : List S81) (b : List Int) (l : List S40) (x : S40) : Option (List S40 × Int) :=
  if topBad x b.length then some ([], 1)
  else if x.f3 = x.f4 then some (l, 0)
  else (record_Next.f k b x.f3 x.f4).bind fun r =>
    if r.2.2.2.2.2.2 = 0 then
      (valid_of.f k M E x.f0 x.f1 x.f2.f0 x.f2.f1 x.f2.f2 x.f2.f3 x.f2.f4 x.f2.f5 x.f2.f6 r.2.2.2.2.2.1 x.f4 x.f5 r.1 r.2.1 r.2.2.1 r.2.2.2.1 r.2.2.2.2.1).bind fun j =>
        (doneN b r.2.1 r.2.2.2.1 r.2.2.2.2.1 j.1 j.2.1 j.2.2.1 ⟨j.2.2.2.1, j.2.2.2.2.1, j.2.2.2.2.2.1, j.2.2.2.2.2.2.1, j.2.2.2.2.2.2.2.1, j.2.2.2.2.2.2.2.2.1, j.2.2.2.2.2.2.2.2.2⟩ (deepOf x r.1)).bind fun d =>
          if d.2 = 0 then some (l ++ [{x with f3 := r.2.2.2.2.2.1}] ++ d.1.toList, 0) else some ([], d.2)
    else some ([], r.2.2.2.2.2.2)
/-- What valid.step leaves. -/
def StepOut (w0 : World) (l : List S40) (x : Int) (e : Ending) (w' : World) : Prop :=
  ∃ v', e = .returned (.tuple #[v', .int .i64 x]) ∧ Kd.R k40 40 w' w0.heap.size (fun _ => True) v' l ∧ Below w0.heap.size w0 w'
/-- A record lies in a block of its own. -/
def RecAt (w w' : World) (g : Nat) (no wire num from_ upto : Int) : Prop :=
  w.heap.size ≤ g ∧ w'.heap[g]? = some (.cells #[.int .i64 no, .int .i64 wire, .int .u64 num, .int .i64 from_, .int .i64 upto] 48) ∧ Below w.heap.size w w'
theorem recAt_new {wc w2 : World} {no wire num from_ upto : Int} (hb : Below wc.heap.size wc w2) :
    RecAt wc (w2.alloc (.cells #[.int .i64 no, .int .i64 wire, .int .u64 num, .int .i64 from_, .int .i64 upto] 48)) w2.heap.size no wire num from_ upto :=
  ⟨hb.size, heap_alloc_last _ _, hb.nx (al1 _ _)⟩
theorem recAt_set {wc w2 : World} {no wire num from_ upto : Int} {a0 a1 a2 a3 a4 : Value} (hb : Below wc.heap.size wc w2) (h : w2.heap[wc.heap.size]? = some (.cells #[a0, a1, a2, a3, a4] 48)) :
    RecAt wc (((((w2.setCell ⟨wc.heap.size, 0, none⟩ (.int .i64 no)).setCell ⟨wc.heap.size, 1, none⟩ (.int .i64 wire)).setCell ⟨wc.heap.size, 2, none⟩ (.int .u64 num)).setCell ⟨wc.heap.size, 3, none⟩ (.int .i64 from_)).setCell ⟨wc.heap.size, 4, none⟩ (.int .i64 upto)) wc.heap.size no wire num from_ upto := by
  have h0 := blk_put (cs' := #[.int .i64 no, a1, a2, a3, a4]) h 0 (.int .i64 no) rfl
  have h1 := blk_put (cs' := #[.int .i64 no, .int .i64 wire, a2, a3, a4]) h0 1 (.int .i64 wire) rfl
  have h2 := blk_put (cs' := #[.int .i64 no, .int .i64 wire, .int .u64 num, a3, a4]) h1 2 (.int .u64 num) rfl
  have h3 := blk_put (cs' := #[.int .i64 no, .int .i64 wire, .int .u64 num, .int .i64 from_, a4]) h2 3 (.int .i64 from_) rfl
  have h4 := blk_put (cs' := #[.int .i64 no, .int .i64 wire, .int .u64 num, .int .i64 from_, .int .i64 upto]) h3 4 (.int .i64 upto) rfl
  have g : wc.heap.size ≤ wc.heap.size := Nat.le_refl _
  exact ⟨g, h4, ((((hb.setCell (p := ⟨wc.heap.size, 0, none⟩) g _).setCell (p := ⟨wc.heap.size, 1, none⟩) g _).setCell (p := ⟨wc.heap.size, 2, none⟩) g _).setCell (p := ⟨wc.heap.size, 3, none⟩) g _).setCell (p := ⟨wc.heap.size, 4, none⟩) g _⟩
/-- The cells of the last frame. -/
theorem top_cells {w : World} {base : Nat} {P : Nat → Prop} {g cap : Nat} {l : List S40} {x : S40} (HV : Kd.R k40 40 w base P (.slice (some ⟨g, 0, none⟩) (l.length + 1) cap) (l ++ [x])) :
    (∀ (j : Nat) (u : Value), [Value.bool x.f0, .int .i64 x.f1, .int .i64 x.f2.f0, .string x.f2.f1, .int .i64 x.f2.f2, .int .i64 x.f2.f3, .bool x.f2.f4, .int .i64 x.f2.f5, .int .i64 x.f2.f6, .int .i64 x.f3, .int .i64 x.f4, .int .i64 x.f5][j]? = some u → w.cell? ⟨g, l.length * 12 + j, none⟩ = some u) ∧ ∀ j, w.frozen? ⟨g, l.length * 12 + j, none⟩ = false := by
  obtain ⟨cs, hcl, hM, hcc, hfz⟩ := Kd.R_elem HV x (l.length : Int) (by omega) (by omega)
  have hx : (l ++ [x]).getD (l.length : Int).toNat x = x := by simp
  rw [hx] at hM
  obtain rfl := k40_openM hM
  have hK : (l.length : Int).toNat * k40.sz = l.length * 12 := by rw [Int.toNat_natCast]; rfl
  rw [hK] at hcc hfz
  exact ⟨hcc, hfz⟩
theorem top_good {x : S40} {n : Nat} (h : ¬ topBad x n) : 1 ≤ x.f5 ∧ x.f5 ≤ 64 := by
  simp only [topBad, not_or] at h
  omega
theorem deep_false {x : S40} {no : Int} (h : (x.f0 && (no == 2) && (x.f2.f2 == 9)) = false) : deepOf x no = x.f5 := by
  unfold deepOf
  split
  · rename_i h2
    simp [h2.1, h2.2.1, h2.2.2] at h
  · rfl
theorem deep_true {x : S40} {no : Int} (h : (x.f0 && (no == 2) && (x.f2.f2 == 9)) = true) : deepOf x no = x.f5 - 1 := by
  unfold deepOf
  simp at h
  rw [if_pos ⟨h.1.1, h.1.2, h.2⟩]
theorem deep_in {x : S40} {n : Nat} {no : Int} (h : ¬ topBad x n) : 0 ≤ deepOf x no ∧ deepOf x no ≤ 64 := by
  have := top_good h
  unfold deepOf
  split <;> omega
/-- The last frame's place is moved on. -/
theorem top_set {w : World} {base : Nat} {g cap : Nat} {l : List S40} {x : S40} (HV : Kd.R k40 40 w base (fun _ => True) (.slice (some ⟨g, 0, none⟩) (l.length + 1) cap) (l ++ [x])) (n : Int) :
    Kd.R k40 40 (w.setCell ⟨g, l.length * 12 + 9, none⟩ (.int .i64 n)) base (fun _ => True) (.slice (some ⟨g, 0, none⟩) (l.length + 1) cap) (l ++ [(⟨x.f0, x.f1, x.f2, n, x.f4, x.f5⟩ : S40)]) := by
  obtain ⟨cs, hcl, hM, hcc, hfz⟩ := Kd.R_elem HV x (l.length : Int) (by omega) (by omega)
  have hx : (l ++ [x]).getD (l.length : Int).toNat x = x := by simp
  rw [hx] at hM
  obtain rfl := k40_openM hM
  have h := (Kd.R_seg HV (l.length : Int) (by omega) (by omega) (seg := [.int .i64 n]) (j := 9) hcl hcc (show 10 ≤ 12 from by decide) (x' := (⟨x.f0, x.f1, x.f2, n, x.f4, x.f5⟩ : S40)) (okp := fun _ => False) (k40_mkM _ _ _ _) (fun _ hk => hk.elim)).1
  have hK : (l.length : Int).toNat * k40.sz = l.length * 12 := by rw [Int.toNat_natCast]; rfl
  rw [hK] at h
  have hs : (l ++ [x]).set (l.length : Int).toNat (⟨x.f0, x.f1, x.f2, n, x.f4, x.f5⟩ : S40) = l ++ [(⟨x.f0, x.f1, x.f2, n, x.f4, x.f5⟩ : S40)] := by simp
  rw [hs] at h
  exact h
section
variable (A0 : Option Addr) (c0 : Nat) (M : List S77) (A1 : Option Addr) (c1 : Nat) (E : List S81) (b : List Int) (A : Option Addr) (c : Nat)
  (w0 w : World) (HB : Below w0.heap.size w0 w) (v : Value) (l : List S40) (x : S40) (HV : Kd.R k40 40 w w0.heap.size (fun _ => True) v (l ++ [x]))
  (hr0 : Kd.C k77 w0 A0 M.length M) (hc0 : M.length ≤ c0) (hr1 : Kd.C k81 w0 A1 E.length E) (hc1 : E.length ≤ c1)
  (hr : Kd.C (Kd.int .u8) w0 A b.length b) (hc : b.length ≤ c) (hl : l.length ≤ 999998)
include HB HV hr0 hc0 hr1 hc1 hr hc hl
set_option maxHeartbeats 4000000 in
set_option maxRecDepth 100000 in
theorem step_bad (h : topBad x b.length) :
    Calls Try.prog 28 #[.agg #[.slice A0 M.length c0, .slice A1 E.length c1], .slice A b.length c, v] w (StepOut w0 ([]) 1) := by
  have HH := Lib.hid h
  clear h
  have HB' := Lib.hid HB
  obtain ⟨g, cap, rfl, hgb, hgl, cells, hcells⟩ := Kd.R_form HV (by simp)
  obtain ⟨cs, hcl, hM, hcc, hfz⟩ := Kd.R_elem HV x (l.length : Int) (by omega) (by simp; omega)
  have hx : (l ++ [x]).getD (l.length : Int).toNat x = x := by simp
  rw [hx] at hM
  obtain rfl := k40_openM hM
  have hn : (l ++ [x]).length = l.length + 1 := by simp
  have HL := Lib.hid hl
  have hK : (l.length : Int).toNat * k40.sz = l.length * 12 := by rw [Int.toNat_natCast]; rfl
  rw [hK] at hcc hfz
  rw [hn] at HV ⊢
  have HV' := Lib.hid HV
  have HCC := Lib.hid hcc
  have HFZ := Lib.hid hfz
  have HR0 := Lib.hid hr0
  have HR1 := Lib.hid hr1
  have HC0 := Lib.hid hc0
  have HC1 := Lib.hid hc1
  have HR := Lib.hid hr
  have HC := Lib.hid hc
  have hbl : b.length ≤ 9223372036854775807 := Kd.C_max hr
  clear HB HV hM hx hcc hfz hcells hcl hn hK hr0 hr1 hc0 hc1 hr hc
  have p9 : w.cell? ⟨g, l.length * 12 + 9, none⟩ = some (.int .i64 x.f3) := HCC.out 9 _ rfl
  have p10 : w.cell? ⟨g, l.length * 12 + 10, none⟩ = some (.int .i64 x.f4) := HCC.out 10 _ rfl
  have p11 : w.cell? ⟨g, l.length * 12 + 11, none⟩ = some (.int .i64 x.f5) := HCC.out 11 _ rfl
  go_enter Try.func28, Try.ntmps28
  go_upto_region 2 with fail
  go_cut [57] from 19 to 57 (fun o wx => o = .bool (decide (topBad x b.length)) ∧ Aside0 (Below w.heap.size w wx) ∧ Aside0 (wx.heap[w.heap.size]? = some (.cells #[.slice A0 M.length c0, .slice A1 E.length c1] 25)))
  case first =>
    have AB := Aside0.mk (al1 w (.cells #[.slice A0 M.length c0, .slice A1 E.length c1] 25))
    have AK := Aside0.mk (heap_alloc_last w (.cells #[.slice A0 M.length c0, .slice A1 E.length c1] 25))
    by_cases t1 : x.f3 < 0
    · have d1 : decide (x.f3 < 0) = true := by simpa using t1
      have dt : decide (topBad x b.length) = true := decide_eq_true (Or.inl t1)
      (have DT := Aside0.mk dt); clear dt; go_big_quiet (fail); go_wp2 ; go_meet; (exact ⟨congrArg Value.bool DT.out.symm, Aside0.mk ((AB.out).nx (pw_below_drewN (Below.refl _ _) _)), Aside0.mk (AK.out)⟩)
    · have d1 : decide (x.f3 < 0) = false := by simpa using t1
      by_cases t2 : x.f3 > x.f4
      · have d2 : decide (x.f3 > x.f4) = true := by simpa using t2
        have dt : decide (topBad x b.length) = true := decide_eq_true (Or.inr (Or.inl t2))
        (have DT := Aside0.mk dt); clear dt; go_big_quiet (fail); go_wp2 ; go_meet; (exact ⟨congrArg Value.bool DT.out.symm, Aside0.mk ((AB.out).nx (pw_below_drewN (Below.refl _ _) _)), Aside0.mk (AK.out)⟩)
      · have d2 : decide (x.f3 > x.f4) = false := by simpa using t2
        by_cases t3 : x.f4 > (b.length : Int)
        · have d3 : decide (x.f4 > (b.length : Int)) = true := by simpa using t3
          have dt : decide (topBad x b.length) = true := decide_eq_true (Or.inr (Or.inr (Or.inl t3)))
          (have DT := Aside0.mk dt); clear dt; go_big_quiet (fail); go_wp2 ; go_meet; (exact ⟨congrArg Value.bool DT.out.symm, Aside0.mk ((AB.out).nx (pw_below_drewN (Below.refl _ _) _)), Aside0.mk (AK.out)⟩)
        · have d3 : decide (x.f4 > (b.length : Int)) = false := by simpa using t3
          by_cases t4 : x.f5 < 1
          · have d4 : decide (x.f5 < 1) = true := by simpa using t4
            have dt : decide (topBad x b.length) = true := decide_eq_true (Or.inr (Or.inr (Or.inr (Or.inl t4))))
            (have DT := Aside0.mk dt); clear dt; go_big_quiet (fail); go_wp2 ; go_meet; (exact ⟨congrArg Value.bool DT.out.symm, Aside0.mk ((AB.out).nx (pw_below_drewN (Below.refl _ _) _)), Aside0.mk (AK.out)⟩)
          · have d4 : decide (x.f5 < 1) = false := by simpa using t4
            by_cases t5 : x.f5 > 64
            · have d5 : decide (x.f5 > 64) = true := by simpa using t5
              have dt : decide (topBad x b.length) = true := decide_eq_true (Or.inr (Or.inr (Or.inr (Or.inr t5))))
              (have DT := Aside0.mk dt); clear dt; go_big_quiet (fail); go_wp2 ; go_meet; (exact ⟨congrArg Value.bool DT.out.symm, Aside0.mk ((AB.out).nx (pw_below_drewN (Below.refl _ _) _)), Aside0.mk (AK.out)⟩)
            · have d5 : decide (x.f5 > 64) = false := by simpa using t5
              have dt : decide (topBad x b.length) = false := decide_eq_false (by rintro (h | h | h | h | h) <;> contradiction)
              (have DT := Aside0.mk dt); clear dt; go_big_quiet (fail); go_wp2 ; go_meet; (exact ⟨congrArg Value.bool DT.out.symm, Aside0.mk ((AB.out).nx (pw_below_drewN (Below.refl _ _) _)), Aside0.mk (AK.out)⟩)

  case rest =>
    obtain ⟨rfl, hb1, hq1⟩ := hcut
    have dt : decide (topBad x b.length) = true := decide_eq_true HH.out
    rw [dt] at *
    clear dt
    go_wp2_with fail
    go_ret2
    exact ⟨_, rfl, Kd.R_nil _ _ _ _ _, HB'.out.nx hb1.out⟩
set_option maxHeartbeats 4000000 in
set_option maxRecDepth 100000 in
theorem step_end (h : ¬ topBad x b.length) (he : x.f3 = x.f4) :
    Calls Try.prog 28 #[.agg #[.slice A0 M.length c0, .slice A1 E.length c1], .slice A b.length c, v] w (StepOut w0 (l) 0) := by
  have HH := Lib.hid h
  have HE := Lib.hid he
  clear h he
  have HB' := Lib.hid HB
  obtain ⟨g, cap, rfl, hgb, hgl, cells, hcells⟩ := Kd.R_form HV (by simp)
  obtain ⟨cs, hcl, hM, hcc, hfz⟩ := Kd.R_elem HV x (l.length : Int) (by omega) (by simp; omega)
  have hx : (l ++ [x]).getD (l.length : Int).toNat x = x := by simp
  rw [hx] at hM
  obtain rfl := k40_openM hM
  have hn : (l ++ [x]).length = l.length + 1 := by simp
  have HL := Lib.hid hl
  have hK : (l.length : Int).toNat * k40.sz = l.length * 12 := by rw [Int.toNat_natCast]; rfl
  rw [hK] at hcc hfz
  rw [hn] at HV ⊢
  have HV' := Lib.hid HV
  have HCC := Lib.hid hcc
  have HFZ := Lib.hid hfz
  have HR0 := Lib.hid hr0
  have HR1 := Lib.hid hr1
  have HC0 := Lib.hid hc0
  have HC1 := Lib.hid hc1
  have HR := Lib.hid hr
  have HC := Lib.hid hc
  have hbl : b.length ≤ 9223372036854775807 := Kd.C_max hr
  clear HB HV hM hx hcc hfz hcells hcl hn hK hr0 hr1 hc0 hc1 hr hc
  have p9 : w.cell? ⟨g, l.length * 12 + 9, none⟩ = some (.int .i64 x.f3) := HCC.out 9 _ rfl
  have p10 : w.cell? ⟨g, l.length * 12 + 10, none⟩ = some (.int .i64 x.f4) := HCC.out 10 _ rfl
  have p11 : w.cell? ⟨g, l.length * 12 + 11, none⟩ = some (.int .i64 x.f5) := HCC.out 11 _ rfl
  go_enter Try.func28, Try.ntmps28
  go_upto_region 2 with fail
  go_cut [57] from 19 to 57 (fun o wx => o = .bool (decide (topBad x b.length)) ∧ Aside0 (Below w.heap.size w wx) ∧ Aside0 (wx.heap[w.heap.size]? = some (.cells #[.slice A0 M.length c0, .slice A1 E.length c1] 25)))
  case first =>
    have AB := Aside0.mk (al1 w (.cells #[.slice A0 M.length c0, .slice A1 E.length c1] 25))
    have AK := Aside0.mk (heap_alloc_last w (.cells #[.slice A0 M.length c0, .slice A1 E.length c1] 25))
    by_cases t1 : x.f3 < 0
    · have d1 : decide (x.f3 < 0) = true := by simpa using t1
      have dt : decide (topBad x b.length) = true := decide_eq_true (Or.inl t1)
      (have DT := Aside0.mk dt); clear dt; go_big_quiet (fail); go_wp2 ; go_meet; (exact ⟨congrArg Value.bool DT.out.symm, Aside0.mk ((AB.out).nx (pw_below_drewN (Below.refl _ _) _)), Aside0.mk (AK.out)⟩)
    · have d1 : decide (x.f3 < 0) = false := by simpa using t1
      by_cases t2 : x.f3 > x.f4
      · have d2 : decide (x.f3 > x.f4) = true := by simpa using t2
        have dt : decide (topBad x b.length) = true := decide_eq_true (Or.inr (Or.inl t2))
        (have DT := Aside0.mk dt); clear dt; go_big_quiet (fail); go_wp2 ; go_meet; (exact ⟨congrArg Value.bool DT.out.symm, Aside0.mk ((AB.out).nx (pw_below_drewN (Below.refl _ _) _)), Aside0.mk (AK.out)⟩)
      · have d2 : decide (x.f3 > x.f4) = false := by simpa using t2
        by_cases t3 : x.f4 > (b.length : Int)
        · have d3 : decide (x.f4 > (b.length : Int)) = true := by simpa using t3
          have dt : decide (topBad x b.length) = true := decide_eq_true (Or.inr (Or.inr (Or.inl t3)))
          (have DT := Aside0.mk dt); clear dt; go_big_quiet (fail); go_wp2 ; go_meet; (exact ⟨congrArg Value.bool DT.out.symm, Aside0.mk ((AB.out).nx (pw_below_drewN (Below.refl _ _) _)), Aside0.mk (AK.out)⟩)
        · have d3 : decide (x.f4 > (b.length : Int)) = false := by simpa using t3
          by_cases t4 : x.f5 < 1
          · have d4 : decide (x.f5 < 1) = true := by simpa using t4
            have dt : decide (topBad x b.length) = true := decide_eq_true (Or.inr (Or.inr (Or.inr (Or.inl t4))))
            (have DT := Aside0.mk dt); clear dt; go_big_quiet (fail); go_wp2 ; go_meet; (exact ⟨congrArg Value.bool DT.out.symm, Aside0.mk ((AB.out).nx (pw_below_drewN (Below.refl _ _) _)), Aside0.mk (AK.out)⟩)
          · have d4 : decide (x.f5 < 1) = false := by simpa using t4
            by_cases t5 : x.f5 > 64
            · have d5 : decide (x.f5 > 64) = true := by simpa using t5
              have dt : decide (topBad x b.length) = true := decide_eq_true (Or.inr (Or.inr (Or.inr (Or.inr t5))))
              (have DT := Aside0.mk dt); clear dt; go_big_quiet (fail); go_wp2 ; go_meet; (exact ⟨congrArg Value.bool DT.out.symm, Aside0.mk ((AB.out).nx (pw_below_drewN (Below.refl _ _) _)), Aside0.mk (AK.out)⟩)
            · have d5 : decide (x.f5 > 64) = false := by simpa using t5
              have dt : decide (topBad x b.length) = false := decide_eq_false (by rintro (h | h | h | h | h) <;> contradiction)
              (have DT := Aside0.mk dt); clear dt; go_big_quiet (fail); go_wp2 ; go_meet; (exact ⟨congrArg Value.bool DT.out.symm, Aside0.mk ((AB.out).nx (pw_below_drewN (Below.refl _ _) _)), Aside0.mk (AK.out)⟩)

  case rest =>
    obtain ⟨rfl, hb1, hq1⟩ := hcut
    have dt : decide (topBad x b.length) = false := decide_eq_false HH.out
    rw [dt] at *
    clear dt p9 p10 p11
    have HB1 := Lib.hid hb1.out
    have HQ1 := Lib.hid hq1.out
    clear hb1 hq1
    have HW1 := Lib.hid (Kd.R_below HV'.out HB1.out)
    have HCC1 := Lib.hid (top_cells HW1.out)
    have hg1 : g < wc.heap.size := Nat.lt_of_lt_of_le hgl HB1.out.size
    have p9 := HCC1.out.1 9 _ rfl
    have p10 := HCC1.out.1 10 _ rfl
    have hcap : l.length + 1 ≤ cap := (Kd.R_reads' HW1.out).2.1
    have hcap2 : l.length ≤ cap := by omega
    go_upto_region 4 with fail
    go_cut [66] from 58 to 66 (fun o wx => o = .bool (x.f3 == x.f4) ∧ Aside0 (Below wc.heap.size wc wx))
    case first =>
      go_big_quiet (fail); go_wp2; go_meet; (exact ⟨rfl, Aside0.mk (pw_below_drewN (Below.refl _ _) _)⟩)
    case rest =>
      obtain ⟨rfl, hb2⟩ := hcut
      have HB2 := Lib.hid (HB1.out.nx hb2.out)
      have HQ2 := Lib.hid (blk_below HQ1.out hb2.out)
      clear hb2 hg1 p9 p10 HB1 HQ1 HW1 HCC1
      have d1 : (x.f3 == x.f4) = true := by rw [HE.out]; simp
      rw [d1]
      clear d1
      go_wp2_with fail
      go_ret2
      refine ⟨_, rfl, ?_, HB'.out.nx HB2.out⟩
      have := Kd.R_take (Kd.R_below HV'.out HB2.out) (m := l.length) (by simp)
      simpa using this
set_option maxHeartbeats 4000000 in
set_option maxRecDepth 100000 in
theorem step_next (k : Nat) (no wire num from_ upto next e : Int) (h : ¬ topBad x b.length) (he : x.f3 ≠ x.f4) (hx : record_Next.f k b x.f3 x.f4 = some (no, wire, num, from_, upto, next, e)) (hne : e ≠ 0) :
    Calls Try.prog 28 #[.agg #[.slice A0 M.length c0, .slice A1 E.length c1], .slice A b.length c, v] w (StepOut w0 ([]) e) := by
  have HH := Lib.hid h
  have HE := Lib.hid he
  have HX := Lib.hid hx
  have HNE := Lib.hid hne
  clear h he hx hne
  have HB' := Lib.hid HB
  obtain ⟨g, cap, rfl, hgb, hgl, cells, hcells⟩ := Kd.R_form HV (by simp)
  obtain ⟨cs, hcl, hM, hcc, hfz⟩ := Kd.R_elem HV x (l.length : Int) (by omega) (by simp; omega)
  have hx : (l ++ [x]).getD (l.length : Int).toNat x = x := by simp
  rw [hx] at hM
  obtain rfl := k40_openM hM
  have hn : (l ++ [x]).length = l.length + 1 := by simp
  have HL := Lib.hid hl
  have hK : (l.length : Int).toNat * k40.sz = l.length * 12 := by rw [Int.toNat_natCast]; rfl
  rw [hK] at hcc hfz
  rw [hn] at HV ⊢
  have HV' := Lib.hid HV
  have HCC := Lib.hid hcc
  have HFZ := Lib.hid hfz
  have HR0 := Lib.hid hr0
  have HR1 := Lib.hid hr1
  have HC0 := Lib.hid hc0
  have HC1 := Lib.hid hc1
  have HR := Lib.hid hr
  have HC := Lib.hid hc
  have hbl : b.length ≤ 9223372036854775807 := Kd.C_max hr
  clear HB HV hM hx hcc hfz hcells hcl hn hK hr0 hr1 hc0 hc1 hr hc
  have p9 : w.cell? ⟨g, l.length * 12 + 9, none⟩ = some (.int .i64 x.f3) := HCC.out 9 _ rfl
  have p10 : w.cell? ⟨g, l.length * 12 + 10, none⟩ = some (.int .i64 x.f4) := HCC.out 10 _ rfl
  have p11 : w.cell? ⟨g, l.length * 12 + 11, none⟩ = some (.int .i64 x.f5) := HCC.out 11 _ rfl
  go_enter Try.func28, Try.ntmps28
  go_upto_region 2 with fail
  go_cut [57] from 19 to 57 (fun o wx => o = .bool (decide (topBad x b.length)) ∧ Aside0 (Below w.heap.size w wx) ∧ Aside0 (wx.heap[w.heap.size]? = some (.cells #[.slice A0 M.length c0, .slice A1 E.length c1] 25)))
  case first =>
    have AB := Aside0.mk (al1 w (.cells #[.slice A0 M.length c0, .slice A1 E.length c1] 25))
    have AK := Aside0.mk (heap_alloc_last w (.cells #[.slice A0 M.length c0, .slice A1 E.length c1] 25))
    by_cases t1 : x.f3 < 0
    · have d1 : decide (x.f3 < 0) = true := by simpa using t1
      have dt : decide (topBad x b.length) = true := decide_eq_true (Or.inl t1)
      (have DT := Aside0.mk dt); clear dt; go_big_quiet (fail); go_wp2 ; go_meet; (exact ⟨congrArg Value.bool DT.out.symm, Aside0.mk ((AB.out).nx (pw_below_drewN (Below.refl _ _) _)), Aside0.mk (AK.out)⟩)
    · have d1 : decide (x.f3 < 0) = false := by simpa using t1
      by_cases t2 : x.f3 > x.f4
      · have d2 : decide (x.f3 > x.f4) = true := by simpa using t2
        have dt : decide (topBad x b.length) = true := decide_eq_true (Or.inr (Or.inl t2))
        (have DT := Aside0.mk dt); clear dt; go_big_quiet (fail); go_wp2 ; go_meet; (exact ⟨congrArg Value.bool DT.out.symm, Aside0.mk ((AB.out).nx (pw_below_drewN (Below.refl _ _) _)), Aside0.mk (AK.out)⟩)
      · have d2 : decide (x.f3 > x.f4) = false := by simpa using t2
        by_cases t3 : x.f4 > (b.length : Int)
        · have d3 : decide (x.f4 > (b.length : Int)) = true := by simpa using t3
          have dt : decide (topBad x b.length) = true := decide_eq_true (Or.inr (Or.inr (Or.inl t3)))
          (have DT := Aside0.mk dt); clear dt; go_big_quiet (fail); go_wp2 ; go_meet; (exact ⟨congrArg Value.bool DT.out.symm, Aside0.mk ((AB.out).nx (pw_below_drewN (Below.refl _ _) _)), Aside0.mk (AK.out)⟩)
        · have d3 : decide (x.f4 > (b.length : Int)) = false := by simpa using t3
          by_cases t4 : x.f5 < 1
          · have d4 : decide (x.f5 < 1) = true := by simpa using t4
            have dt : decide (topBad x b.length) = true := decide_eq_true (Or.inr (Or.inr (Or.inr (Or.inl t4))))
            (have DT := Aside0.mk dt); clear dt; go_big_quiet (fail); go_wp2 ; go_meet; (exact ⟨congrArg Value.bool DT.out.symm, Aside0.mk ((AB.out).nx (pw_below_drewN (Below.refl _ _) _)), Aside0.mk (AK.out)⟩)
          · have d4 : decide (x.f5 < 1) = false := by simpa using t4
            by_cases t5 : x.f5 > 64
            · have d5 : decide (x.f5 > 64) = true := by simpa using t5
              have dt : decide (topBad x b.length) = true := decide_eq_true (Or.inr (Or.inr (Or.inr (Or.inr t5))))
              (have DT := Aside0.mk dt); clear dt; go_big_quiet (fail); go_wp2 ; go_meet; (exact ⟨congrArg Value.bool DT.out.symm, Aside0.mk ((AB.out).nx (pw_below_drewN (Below.refl _ _) _)), Aside0.mk (AK.out)⟩)
            · have d5 : decide (x.f5 > 64) = false := by simpa using t5
              have dt : decide (topBad x b.length) = false := decide_eq_false (by rintro (h | h | h | h | h) <;> contradiction)
              (have DT := Aside0.mk dt); clear dt; go_big_quiet (fail); go_wp2 ; go_meet; (exact ⟨congrArg Value.bool DT.out.symm, Aside0.mk ((AB.out).nx (pw_below_drewN (Below.refl _ _) _)), Aside0.mk (AK.out)⟩)

  case rest =>
    obtain ⟨rfl, hb1, hq1⟩ := hcut
    have dt : decide (topBad x b.length) = false := decide_eq_false HH.out
    rw [dt] at *
    clear dt p9 p10 p11
    have HB1 := Lib.hid hb1.out
    have HQ1 := Lib.hid hq1.out
    clear hb1 hq1
    have HW1 := Lib.hid (Kd.R_below HV'.out HB1.out)
    have HCC1 := Lib.hid (top_cells HW1.out)
    have hg1 : g < wc.heap.size := Nat.lt_of_lt_of_le hgl HB1.out.size
    have p9 := HCC1.out.1 9 _ rfl
    have p10 := HCC1.out.1 10 _ rfl
    have hcap : l.length + 1 ≤ cap := (Kd.R_reads' HW1.out).2.1
    have hcap2 : l.length ≤ cap := by omega
    go_upto_region 4 with fail
    go_cut [66] from 58 to 66 (fun o wx => o = .bool (x.f3 == x.f4) ∧ Aside0 (Below wc.heap.size wc wx))
    case first =>
      go_big_quiet (fail); go_wp2; go_meet; (exact ⟨rfl, Aside0.mk (pw_below_drewN (Below.refl _ _) _)⟩)
    case rest =>
      obtain ⟨rfl, hb2⟩ := hcut
      have HB2 := Lib.hid (HB1.out.nx hb2.out)
      have HQ2 := Lib.hid (blk_below HQ1.out hb2.out)
      clear hb2 hg1 p9 p10 HB1 HQ1 HW1 HCC1
      have d1 : (x.f3 == x.f4) = false := by simpa using HE.out
      rw [d1]
      clear d1
      have HW2 := Lib.hid (Kd.R_below HV'.out HB2.out)
      have HCC2 := Lib.hid (top_cells HW2.out)
      have hg2 : g < wc.heap.size := Nat.lt_of_lt_of_le hgl HB2.out.size
      have p9 := HCC2.out.1 9 _ rfl
      have p10 := HCC2.out.1 10 _ rfl
      have HN := Lib.hid (fun (w1 : World) (hb : Below wc.heap.size wc w1) => record_Next.calls k A c b x.f3 x.f4 _ _ _ _ _ _ _ w1 (Kd.C_below HR.out (HB'.out.nx (HB2.out.nx hb))) HC.out HX.out)
      go_upto_region 6 with fail
      go_cut [9, 10, 11] from 72 to 85 (fun p q e1 wx => ∃ gr, p = .pointer (some ⟨gr, 0, none⟩) ∧ q = .int .i64 next ∧ e1 = .int .i64 e ∧ RecAt wc wx gr no wire num from_ upto)
      case rest =>
        (obtain ⟨gr, rfl, rfl, rfl, hge, hbk, hb3⟩ := hcut
         have d2 : (e != 0) = true := by simpa using HNE.out
         go_wp2_with fail
         go_ret2
         exact ⟨_, rfl, Kd.R_nil _ _ _ _ _, HB'.out.nx (HB2.out.nx hb3)⟩)
      go_region_with (first
        | (go_at_call 48; (with_reducible refine (HN.out _ ?_).mono ?_); (exact (Below.refl _ _).drew); rintro e w2 ⟨rfl, b1⟩; have BB := Aside0.mk ((Below.refl _ _).drew.nx b1); clear b1)
        | (go_at_call 48; (with_reducible refine (HN.out _ ?_).mono ?_); (exact (al1 _ _).drew); rintro e w2 ⟨rfl, b1⟩; have BB := Aside0.mk ((al1 _ _).drew.nx b1); have bk : w2.heap[wc.heap.size]? = some (.cells #[.int .i64 0, .int .i64 0, .int .u64 0, .int .i64 0, .int .i64 0] 48) := blk_below (blk_drew (heap_alloc_last wc _)) b1; have BK := Aside0.mk bk; have lt0 := blk_lt bk; have fz0 : w2.frozen? ⟨wc.heap.size, 0, none⟩ = false := blk_frozen bk 0; have z0 : w2.cell? ⟨wc.heap.size, 0, none⟩ = some (.int .i64 0) := (blk_cell bk 0).trans rfl; have fz1 : w2.frozen? ⟨wc.heap.size, 1, none⟩ = false := blk_frozen bk 1; have z1 : w2.cell? ⟨wc.heap.size, 1, none⟩ = some (.int .i64 0) := (blk_cell bk 1).trans rfl; have fz2 : w2.frozen? ⟨wc.heap.size, 2, none⟩ = false := blk_frozen bk 2; have z2 : w2.cell? ⟨wc.heap.size, 2, none⟩ = some (.int .u64 0) := (blk_cell bk 2).trans rfl; have fz3 : w2.frozen? ⟨wc.heap.size, 3, none⟩ = false := blk_frozen bk 3; have z3 : w2.cell? ⟨wc.heap.size, 3, none⟩ = some (.int .i64 0) := (blk_cell bk 3).trans rfl; have fz4 : w2.frozen? ⟨wc.heap.size, 4, none⟩ = false := blk_frozen bk 4; have z4 : w2.cell? ⟨wc.heap.size, 4, none⟩ = some (.int .i64 0) := (blk_cell bk 4).trans rfl; clear b1 bk)
        | (go_at_call 48; (with_reducible refine (HN.out _ ?_).mono ?_); (exact (Below.refl _ _).drew.alloc (Nat.le_refl _) _); rintro e w2 ⟨rfl, b1⟩; have BB := Aside0.mk (((Below.refl _ _).drew.alloc (Nat.le_refl _) _).nx b1); have bk : w2.heap[wc.heap.size]? = some (.cells #[.int .i64 0, .int .i64 0, .int .u64 0, .int .i64 0, .int .i64 0] 48) := blk_below (heap_alloc_last wc.drew _) b1; have BK := Aside0.mk bk; have lt0 := blk_lt bk; have fz0 : w2.frozen? ⟨wc.heap.size, 0, none⟩ = false := blk_frozen bk 0; have z0 : w2.cell? ⟨wc.heap.size, 0, none⟩ = some (.int .i64 0) := (blk_cell bk 0).trans rfl; have fz1 : w2.frozen? ⟨wc.heap.size, 1, none⟩ = false := blk_frozen bk 1; have z1 : w2.cell? ⟨wc.heap.size, 1, none⟩ = some (.int .i64 0) := (blk_cell bk 1).trans rfl; have fz2 : w2.frozen? ⟨wc.heap.size, 2, none⟩ = false := blk_frozen bk 2; have z2 : w2.cell? ⟨wc.heap.size, 2, none⟩ = some (.int .u64 0) := (blk_cell bk 2).trans rfl; have fz3 : w2.frozen? ⟨wc.heap.size, 3, none⟩ = false := blk_frozen bk 3; have z3 : w2.cell? ⟨wc.heap.size, 3, none⟩ = some (.int .i64 0) := (blk_cell bk 3).trans rfl; have fz4 : w2.frozen? ⟨wc.heap.size, 4, none⟩ = false := blk_frozen bk 4; have z4 : w2.cell? ⟨wc.heap.size, 4, none⟩ = some (.int .i64 0) := (blk_cell bk 4).trans rfl; clear b1 bk))
      all_goals (go_wp2; go_meet)
      all_goals first | exact ⟨_, rfl, rfl, rfl, recAt_set BB.out BK.out⟩ | exact ⟨_, rfl, rfl, rfl, recAt_new BB.out⟩
end
end Go.Proofs.Ytlokcpfkaijchaa.PA
