/- Contract of table.message: may a message be? -/
import Derived.Test.YthikfifoomfjgaaGreatPAx2
import Derived.Test.YthikfifoomfjgaaGreatGEnum2
namespace Go.Proofs.YthikfifoomfjgaaGreat.PA
open Go.RowKit Go.Proofs.YthikfifoomfjgaaGreatW.PrintWords Go.Proofs.YthikfifoomfjgaaGreatW.PrintLast Go.Proofs.YthikfifoomfjgaaGreatW.PrintMore
set_option linter.unusedVariables false
set_option linter.unusedSimpArgs false
def fieldOk (M : List S58) (E : List S79) (f : S47) : Option Bool := table_field.f 5 M E f.f0 f.f1 f.f2 f.f3 f.f4 f.f5 f.f6
/-- May all fields be, and do their numbers rise? -/
def msgRun (M : List S58) (E : List S79) : List S47 → Int → Option Bool
  | [], _ => some true
  | f :: r, last => (fieldOk M E f).bind fun b => if b = true then (if f.f0 ≤ last then some false else msgRun M E r f.f0) else some false
def messageF (M : List S58) (E : List S79) (m : S58) : Option Bool :=
  (msgRun M E m.f1 0).bind fun b => some (b && (decide (m.f1.length ≤ 30) && decide (m.f1.map (·.f1)).Nodup))
theorem info_string : (Tryz.prog.info? 9).map (fun i => (i.zero, i.size, i.bytes)) = some (some (.string ⟨#[]⟩), 1, 16) := by kernel_rfl
section
set_option maxHeartbeats 8000000 in
set_option maxRecDepth 100000 in
theorem table_message (A0_0 : Option Addr) (c0_0 : Nat) (M : List (S58)) (A0_1 : Option Addr) (c0_1 : Nat) (E : List (S79)) (x : S58) (A1 : Option Addr) (c1 : Nat) (w : World) (hr0_0 : Kd.C k58 w A0_0 M.length M) (hc0_0 : M.length ≤ c0_0) (hr0_1 : Kd.C k79 w A0_1 E.length E) (hc0_1 : E.length ≤ c0_1)
    (h1 : Kd.C k47 w A1 x.f1.length x.f1) (hn : okNames (x.f1.map (·.f1)) = true) (r : Bool) (h : messageF M E x = some r) :
    Calls Tryz.prog 68 #[.agg #[.slice A0_0 M.length c0_0, .slice A0_1 E.length c0_1], .agg #[.string x.f0, .slice A1 x.f1.length c1]] w fun e w' => e = .returned (.bool r) ∧ Below w.heap.size w w' := by
  obtain ⟨x0, l⟩ := x
  simp only at *
  unfold messageF at h
  simp only at h
  replace h := Option.bind_eq_some_iff.mp h
  obtain ⟨b0, hrun, h⟩ := h
  obtain rfl := Option.some.inj h
  have HR0 := Lib.hid hr0_0
  have HR1 := Lib.hid hr0_1
  have HC0 := Lib.hid hc0_0
  have HC1 := Lib.hid hc0_1
  have HL := Lib.hid h1
  obtain ⟨hn1, hn2⟩ := okNames_out hn
  have HN1 := Lib.hid hn1
  have hll : l.length ≤ 1000000 := by simpa using hn2
  have HRUN := Aside0.mk hrun
  clear hr0_0 hr0_1 hc0_0 hc0_1 h1 hn hn1 hn2 hrun h
  go_enter Tryz.func68, Tryz.ntmps68
  go_wp2
  go_loopw [5, 6, 12] (fun v5 v6 v12 wr => ∃ (k : Nat) (last : Int), k ≤ l.length ∧ v12 = .int .i64 k ∧ v6 = .int .i64 last ∧ Aside0 (msgRun M E (l.drop k) last = some b0) ∧ Aside0 (Kd.string.R 9 wr w.heap.size (fun j => w.heap.size + 2 ≤ j) v5 ((l.take k).map (·.f1))) ∧ Aside0 (wr.heap[w.heap.size]? = some (.cells #[.slice A0_0 M.length c0_0, .slice A0_1 E.length c0_1] 25 (0, 0))) ∧ Aside0 (wr.heap[w.heap.size + 1]? = some (.cells #[.string x0, .slice A1 l.length c1] 58 (0, 0))) ∧ Aside0 (Below w.heap.size w wr)) (fun _ _ v12 _ => l.length - (intOf v12).toNat)
  case atStart => exact ⟨0, 0, Nat.zero_le _, rfl, rfl, HRUN, ⟨by rw [List.take_zero]; exact Kd.R_nil _ _ _ _ _⟩, ⟨blk_two0 _ _ _⟩, ⟨blk_two _ _ _⟩, ⟨below2 _ _ _⟩⟩
  case round =>
    obtain ⟨k, last, hk, rfl, rfl, HA, HV, BS, BM, BB⟩ := hrel
    have q0 : wr.cell? ⟨w.heap.size, 0, none⟩ = some (.slice A0_0 M.length c0_0) := (blk_cell BS.out 0).trans rfl
    have q1 : wr.cell? ⟨w.heap.size, 1, none⟩ = some (.slice A0_1 E.length c0_1) := (blk_cell BS.out 1).trans rfl
    have q2 : wr.cell? ⟨w.heap.size + 1, 1, none⟩ = some (.slice A1 l.length c1) := (blk_cell BM.out 1).trans rfl
    have lt0 := blk_lt BS.out
    have lt1 := blk_lt BM.out
    by_cases hlt : k < l.length
    · obtain ⟨ad, rfl, m0, m1, m2, m3, m4, m5, m6⟩ := at_T47 (Kd.C_below HL.out BB.out) k (by omega) (by omega)
      have eg' : rd_T47 l (k : Int) = l[k] := by simp [rd_T47, hlt]
      rw [eg'] at m0 m1 m2 m3 m4 m5 m6
      simp only [Int.toNat_natCast] at m0 m1 m2 m3 m4 m5 m6
      have H := HA.out
      rw [List.drop_eq_getElem_cons hlt] at H
      simp only [msgRun] at H
      replace H := Option.bind_eq_some_iff.mp H
      obtain ⟨fb, hfb, H⟩ := H
      have HF := Aside0.mk (show table_field.f 5 M E l[k].f0 l[k].f1 l[k].f2 l[k].f3 l[k].f4 l[k].f5 l[k].f6 = some fb from hfb)
      have HT := Aside0.mk (List.take_succ_eq_append_getElem hlt)
      clear HA hfb eg'
      generalize l[k] = f at *
      cases fb with
      | false =>
        obtain rfl : false = b0 := by simpa using H
        go_wp2_with (first | (with_reducible refine wpList_store_new rfl (.tmp 8) (.tmp 15) rfl rfl rfl (by kernel_rfl) (by simp) (by simp [Value.oneCell']) ?_) | (go_at_call 102; (with_reducible refine (table_field.calls 5 _ _ _ _ _ _ _ _ _ _ _ _ _ _ _ (Kd.C_below HR0.out (BB.out.nx (al1 _ _))) HC0.out (Kd.C_below HR1.out (BB.out.nx (al1 _ _))) HC1.out HF.out).mono ?_); rintro e w2 ⟨rfl, b1⟩; have BF := Aside0.mk (blk_below (heap_alloc_last _ _) b1); have b2 := (al1 _ _).nx b1; have BS2 := Aside0.mk (blk_below BS.out b2); have BM2 := Aside0.mk (blk_below BM.out b2); have HV2 := Aside0.mk (Kd.R_below HV.out b2); have BB2 := Aside0.mk (BB.out.nx b2); clear b1 b2 BS BM HV BB q0 q1 q2 lt0 lt1 m0 m1 m2 m3 m4 m5 m6; have f0 : w2.cell? ⟨wr.heap.size, 0, none⟩ = some (.int .i64 f.f0) := (blk_cell BF.out 0).trans rfl; have f1 : w2.cell? ⟨wr.heap.size, 1, none⟩ = some (.string f.f1) := (blk_cell BF.out 1).trans rfl; have lt2 := blk_lt BF.out))
        exact ⟨rfl, _, results_tmp (t := 4) rfl _ _ _, rfl, BB2.out⟩
      | true =>
        by_cases hle : f.f0 ≤ last
        · obtain rfl : false = b0 := by simpa [hle] using H
          have d1 : decide (f.f0 ≤ last) = true := by simpa using hle
          clear H
          go_wp2_with (first | (with_reducible refine wpList_store_new rfl (.tmp 8) (.tmp 15) rfl rfl rfl (by kernel_rfl) (by simp) (by simp [Value.oneCell']) ?_) | (go_at_call 102; (with_reducible refine (table_field.calls 5 _ _ _ _ _ _ _ _ _ _ _ _ _ _ _ (Kd.C_below HR0.out (BB.out.nx (al1 _ _))) HC0.out (Kd.C_below HR1.out (BB.out.nx (al1 _ _))) HC1.out HF.out).mono ?_); rintro e w2 ⟨rfl, b1⟩; have BF := Aside0.mk (blk_below (heap_alloc_last _ _) b1); have b2 := (al1 _ _).nx b1; have BS2 := Aside0.mk (blk_below BS.out b2); have BM2 := Aside0.mk (blk_below BM.out b2); have HV2 := Aside0.mk (Kd.R_below HV.out b2); have BB2 := Aside0.mk (BB.out.nx b2); clear b1 b2 BS BM HV BB q0 q1 q2 lt0 lt1 m0 m1 m2 m3 m4 m5 m6; have f0 : w2.cell? ⟨wr.heap.size, 0, none⟩ = some (.int .i64 f.f0) := (blk_cell BF.out 0).trans rfl; have f1 : w2.cell? ⟨wr.heap.size, 1, none⟩ = some (.string f.f1) := (blk_cell BF.out 1).trans rfl; have lt2 := blk_lt BF.out))
          exact ⟨rfl, _, results_tmp (t := 4) rfl _ _ _, rfl, BB2.out⟩
        · have HA := Aside0.mk (show msgRun M E (l.drop (k + 1)) f.f0 = some b0 by simpa [hle] using H)
          have d1 : decide (f.f0 ≤ last) = false := by simpa using hle
          clear H hle
          have hkl : ((l.take k).map (·.f1)).length ≤ 1000000 := by simp; omega
          have HKL := Aside0.mk hkl
          clear hkl
          go_wp2_with (first | (with_reducible refine wpList_store_new rfl (.tmp 8) (.tmp 15) rfl rfl rfl (by kernel_rfl) (by simp) (by simp [Value.oneCell']) ?_) | (go_at_call 102; (with_reducible refine (table_field.calls 5 _ _ _ _ _ _ _ _ _ _ _ _ _ _ _ (Kd.C_below HR0.out (BB.out.nx (al1 _ _))) HC0.out (Kd.C_below HR1.out (BB.out.nx (al1 _ _))) HC1.out HF.out).mono ?_); rintro e w2 ⟨rfl, b1⟩; have BF := Aside0.mk (blk_below (heap_alloc_last _ _) b1); have b2 := (al1 _ _).nx b1; have BS2 := Aside0.mk (blk_below BS.out b2); have BM2 := Aside0.mk (blk_below BM.out b2); have HV2 := Aside0.mk (Kd.R_below HV.out b2); have BB2 := Aside0.mk (BB.out.nx b2); clear b1 b2 BS BM HV BB q0 q1 q2 lt0 lt1 m0 m1 m2 m3 m4 m5 m6; have f0 : w2.cell? ⟨wr.heap.size, 0, none⟩ = some (.int .i64 f.f0) := (blk_cell BF.out 0).trans rfl; have f1 : w2.cell? ⟨wr.heap.size, 1, none⟩ = some (.string f.f1) := (blk_cell BF.out 1).trans rfl; have lt2 := blk_lt BF.out) | (at_builtin; refine Kd.R_append Kd.string (w0 := w) w.heap.size rfl (.tmp 28) (.tmp 31) 76 9 (.string ⟨#[]⟩) 16 rfl Tryz.underlying76 info_string rfl (by decide) (by decide) u5 ((l.take k).map (·.f1)) f.f1 [.string f.f1] (fun j => w.heap.size + 2 ≤ j) (fun _ => False) rfl rfl rfl (fun _ hk => hk.elim) (fun j hj => by have := blk_lt BM2.out; omega) HV2.out BB2.out BB2.out.size (by have := HKL.out; omega) ?_; intro v1 w3 HV3 BB3 hg3 _; have hne : ∀ j, j < w.heap.size + 2 → some j ≠ u5.ownBlock := (fun j hj e => by have h2 : w.heap.size + 2 ≤ j := HV2.out.1 j e.symm; omega); have BS3 := Aside0.mk ((hg3.block _ (blk_lt BS2.out) (hne _ (by omega))).trans BS2.out); have BM3 := Aside0.mk ((hg3.block _ (blk_lt BM2.out) (hne _ (by omega))).trans BM2.out); have HV4 := Aside0.mk HV3; have BB4 := Aside0.mk BB3; clear hne hg3 HV3 BB3 BS2 BM2 HV2 BB2 f0 f1 lt2))
          go_roundw
          case rel => exact ⟨k + 1, f.f0, by omega, by go_num, rfl, HA, ⟨by rw [HT.out, List.map_append]; exact HV4.out⟩, BS3, BM3, BB4⟩
          case measure => simp [intOf]; omega
    · have hkl : k = l.length := by omega
      subst hkl
      have H := HA.out
      rw [List.drop_length] at H
      obtain rfl : true = b0 := by simpa [msgRun] using H
      rw [List.take_length] at HV
      clear HA H
      have hns : (l.map (·.f1)).length ≤ 1000000 := by simpa using hll
      generalize hgn : l.map (·.f1) = ns at *
      have HGN := Lib.hid hgn
      clear hgn
      obtain ⟨A5, c5, rfl, hc5, hC5⟩ := Kd.R_reads HV.out
      have HC5 := Aside0.mk hC5
      clear hC5 hc5 HV
      by_cases h30 : l.length ≤ 30
      · have z : decide (l.length ≤ 30) = true := by simpa using h30
        have z2 : decide ((l.length : Int) ≤ 30) = true := by simp; omega
        have HZ := Lib.hid (show (true && (decide (l.length ≤ 30) && decide ns.Nodup)) = decide ns.Nodup by rw [z]; simp)
        clear h30
        go_wp2_with (go_at_call 70; (with_reducible refine (uniq_Str _ _ _ _ HC5.out HN1.out hns).mono ?_); rintro e w2 ⟨rfl, b1⟩)
        go_ret
        exact ⟨ret_bool2 (by rw [HGN.out]; exact HZ.out.symm), BB.out.nx b1⟩
      · have z : decide (l.length ≤ 30) = false := by simpa using h30
        have z2 : decide ((l.length : Int) ≤ 30) = false := by simp; omega
        have HZ := Lib.hid (show (true && (decide (l.length ≤ 30) && decide ns.Nodup)) = false by rw [z]; simp)
        clear h30
        go_wp2
        go_ret
        exact ⟨ret_bool2 (by rw [HGN.out]; exact HZ.out.symm), BB.out⟩
end
end Go.Proofs.YthikfifoomfjgaaGreat.PA
