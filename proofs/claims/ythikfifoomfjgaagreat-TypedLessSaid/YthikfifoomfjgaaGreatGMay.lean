/- Contract of table.May: may a schema be? -/
import Derived.Test.YthikfifoomfjgaaGreatGMsg
import Derived.Test.YthikfifoomfjgaaGreatGPlain
namespace Go.Proofs.YthikfifoomfjgaaGreat.PA
open Go.RowKit Go.WideMaps Go.Maps Go.Proofs.YthikfifoomfjgaaGreatW.PrintWords Go.Proofs.YthikfifoomfjgaaGreatW.PrintLast Go.Proofs.YthikfifoomfjgaaGreatW.PrintMore
set_option linter.unusedVariables false
set_option linter.unusedSimpArgs false
/-- A schema that a machine can have. -/
def okSchema (M : List S58) (E : List S79) : Bool :=
  okNames (M.map (·.f0)) && (okNames (E.map (·.f0)) && (M.all (fun m => okNames (m.f1.map (·.f1))) && E.all (fun e => okNames e.f1 && okNums e.f2)))
/-- May all messages be? -/
def allM (M : List S58) (E : List S79) : List S58 → Option Bool
  | [] => some true
  | m :: r => (messageF M E m).bind fun b => if b = true then allM M E r else some false
/-- Are there as many messages, and enums, as there may be? -/
def fewB (M : List S58) (E : List S79) : Bool := decide (1 ≤ M.length ∧ M.length ≤ 20) && decide (E.length ≤ 20)
def mayF (M : List S58) (E : List S79) : Option Bool :=
  if fewB M E = true then (allM M E M).bind fun b => some (b && (E.all enumB && decide (plainNames ++ (M.map (·.f0) ++ E.map (·.f0))).Nodup)) else some false
def table_May.f (l0_0 : List (S58)) (l0_1 : List (S79)) : Option (Bool) := if okSchema l0_0 l0_1 = true then mayF l0_0 l0_1 else none
/-- A text out of its bytes. -/
def baOf (l : List UInt8) : ByteArray := ⟨l.toArray⟩
theorem perm_names {ss : List (List UInt8)} (h : ss.Perm (strKeys plainD)) : (ss.map baOf).Perm plainNames := by
  have h1 := (h.trans plainD_keys).map baOf
  rw [List.map_map] at h1
  have h2 : (baOf ∘ fun s : ByteArray => s.data.toList) = id := by
    funext s
    simp [baOf]
  rwa [h2, List.map_id] at h1
theorem plain_small (s : ByteArray) (hs : s ∈ plainNames) : s.size ≤ maxLen := by
  have h : plainNames.all (fun s => decide (s.size ≤ 100)) = true := by decide +kernel
  have h1 := List.all_eq_true.1 h s hs
  have h2 : s.size ≤ 100 := by simpa using h1
  unfold maxLen
  omega
section
set_option maxHeartbeats 8000000 in
set_option maxRecDepth 100000 in
theorem table_May.calls (A0_0 : Option Addr) (c0_0 : Nat) (l0_0 : List (S58)) (A0_1 : Option Addr) (c0_1 : Nat) (l0_1 : List (S79)) (r : Bool) (w : World) (hr0_0 : Kd.C k58 w A0_0 l0_0.length l0_0) (hc0_0 : l0_0.length ≤ c0_0) (hr0_1 : Kd.C k79 w A0_1 l0_1.length l0_1) (hc0_1 : l0_1.length ≤ c0_1) (h : table_May.f l0_0 l0_1 = some r) :
    Calls Tryz.prog 35 #[.agg #[.slice A0_0 l0_0.length c0_0, .slice A0_1 l0_1.length c0_1]] w fun e w' => e = .returned (.bool r) ∧ Below w.heap.size w w' := by
  unfold table_May.f at h
  by_cases hok : okSchema l0_0 l0_1 = true
  case neg => rw [if_neg hok] at h; cases h
  rw [if_pos hok] at h
  unfold okSchema at hok
  simp only [Bool.and_eq_true] at hok
  obtain ⟨hM1, hE1, hM2, hE2⟩ := hok
  have HM1 := Lib.hid (okNames_out hM1)
  have HE1 := Lib.hid (okNames_out hE1)
  have HM2 := Lib.hid (List.all_eq_true.1 hM2)
  have HE2 := Lib.hid (List.all_eq_true.1 hE2)
  have HR0 := Lib.hid hr0_0
  have HR1 := Lib.hid hr0_1
  have HC0 := Lib.hid hc0_0
  have HC1 := Lib.hid hc0_1
  have H' := Aside0.mk h
  have hl0 : l0_0.length ≤ 9223372036854775807 := hr0_0.2.1
  have hl1 : l0_1.length ≤ 9223372036854775807 := hr0_1.2.1
  clear hM1 hE1 hM2 hE2 hr0_0 hr0_1 hc0_0 hc0_1 h
  have hmm := @run_makeMap Tryz.prog
  go_enter Tryz.func35, Tryz.ntmps35
  go_wp2_with (first | (go_at_call 66; (with_reducible refine (table_plain _).mono ?_); rintro e w1 ⟨rfl, hown, b1⟩; have BS := Aside0.mk (blk_below (heap_alloc_last _ _) b1); have BB := Aside0.mk ((al1 _ _).nx b1); have HO := Aside0.mk (show w1.ownsMap Tryz.prog 9 (plainElem Tryz.prog 3) (w.heap.size + 1) 8 plainD by simpa using hown); clear b1 hown) | (at_range; refine wpList_range_own _ rfl _ 88 rfl 9 3 lawStr Tryz.underlying88 _ (w.heap.size + 1) 8 plainD rfl HO.out ?_; intro w0 hrg0 hg0 hs0; have HG := Aside0.mk hrg0; have BS2 := Aside0.mk ((hg0.block _ (blk_lt BS.out) (by simp)).trans BS.out); have BB2 := Aside0.mk (BB.out.grown hg0 BB.out.size (fun j hj => by cases hj)); have HZ := Aside0.mk (show w.heap.size + 1 < w1.heap.size ∧ w1.heap.size < w0.heap.size from ⟨HO.out.lt, by omega⟩); clear hrg0 hg0 hs0 BS BB HO))
  go_frame
  go_loopw [3] (fun v3 wr => ∃ (left : Lit → Bool) (cnt : Nat) (ss : List (List UInt8)), Aside0 (wr.ranges Tryz.prog 9 (plainElem Tryz.prog 3) (w.heap.size + 1) w1.heap.size 8 plainD left cnt) ∧ Aside0 (Collected plainD left ss) ∧ Aside0 (ss.length + cnt ≤ 8) ∧ Aside0 (Kd.string.R 9 wr w.heap.size (fun j => w0.heap.size ≤ j) v3 (ss.map baOf)) ∧ Aside0 (wr.heap[w.heap.size]? = some (.cells #[.slice A0_0 l0_0.length c0_0, .slice A0_1 l0_1.length c0_1] 25 (0, 0))) ∧ Aside0 (w0.heap.size ≤ wr.heap.size) ∧ Aside0 (Below w.heap.size w wr))
    (fun _ wr => wr.rangeLeft (w.heap.size + 1) w1.heap.size)
  case atStart => exact ⟨_, _, [], HG, ⟨Collected.start plainD⟩, ⟨by decide⟩, ⟨Kd.R_nil _ _ _ _ _⟩, BS2, ⟨Nat.le_refl _⟩, BB2⟩
  case round =>
    clear HG BS2 BB2
    obtain ⟨left, cnt, ss, HG, HCo, HL, HV, BS, HS, BB⟩ := hrel
    go_wp2_with (at_next; refine wpList_next_ranges _ rfl _ rfl 9 lawStr _ encStr (Value.int .i64) (fun key kl hk => by obtain ⟨x, hx, _⟩ := Maps.keyOf_str Tryz.underlying9 hk; exact ⟨x, hx⟩) (fun v y hv => by obtain ⟨c, rfl, _⟩ := plainElem_int_inv Tryz.underlying3 hv; exact ⟨c, rfl⟩) (w.heap.size + 1) w1.heap.size 8 plainD left cnt rfl HG.out ?_ ?_)
    · intro _ hl0
      have HP := Aside0.mk (perm_names (HCo.out.perm HG.out.owns lawStr Tryz.underlying9 hl0))
      have HSS := Aside0.mk (show (ss.map baOf).length ≤ 8 by have := HL.out; rw [List.length_map]; omega)
      clear hl0 HCo HG HL
      generalize ss.map baOf = nm0 at *
      have q0 : wr.cell? ⟨w.heap.size, 0, none⟩ = some (.slice A0_0 l0_0.length c0_0) := (blk_cell BS.out 0).trans rfl
      have q1 : wr.cell? ⟨w.heap.size, 1, none⟩ = some (.slice A0_1 l0_1.length c0_1) := (blk_cell BS.out 1).trans rfl
      have lt0 := blk_lt BS.out
      have H := H'.out
      unfold mayF at H
      by_cases hf1 : 1 ≤ l0_0.length ∧ l0_0.length ≤ 20
      case neg =>
        have hin : table_in.f (l0_0.length : Int) 1 20 = some false := by
          unfold table_in.f
          by_cases g : (l0_0.length : Int) ≥ 1
          · rw [if_pos g]; simp; omega
          · rw [if_neg g]
        have HIN := Lib.hid hin
        have hfew : fewB l0_0 l0_1 = false := by unfold fewB; rw [decide_eq_false hf1]; rfl
        rw [hfew] at H
        obtain rfl : false = r := by simpa using H
        clear hin hf1 hfew H H'
        go_wp2_with (go_at_call 67; (with_reducible refine (table_in.calls _ _ _ _ _ HIN.out).mono ?_); rintro e w2 ⟨rfl, ⟨nq, rfl⟩⟩)
        exact ⟨rfl, _, results_tmp (t := 2) rfl _ _ _, rfl, pw_below_drewN BB.out _⟩
      have hin : table_in.f (l0_0.length : Int) 1 20 = some true := by unfold table_in.f; rw [if_pos (by omega)]; simp; omega
      have HIN := Lib.hid hin
      obtain ⟨hf1a, hf1b⟩ := hf1
      clear hin
      by_cases hf2 : l0_1.length ≤ 20
      case neg =>
        have hfew : fewB l0_0 l0_1 = false := by unfold fewB; rw [decide_eq_false hf2, Bool.and_false]
        rw [hfew] at H
        obtain rfl : false = r := by simpa using H
        have d2 : decide ((20 : Int) < (l0_1.length : Int)) = true := by simp; omega
        clear hfew H H'
        go_wp2_with (go_at_call 67; (with_reducible refine (table_in.calls _ _ _ _ _ HIN.out).mono ?_); rintro e w2 ⟨rfl, ⟨nq, rfl⟩⟩)
        exact ⟨rfl, _, results_tmp (t := 2) rfl _ _ _, rfl, pw_below_drewN BB.out _⟩
      have hfew : fewB l0_0 l0_1 = true := by unfold fewB; rw [decide_eq_true hf2, decide_eq_true ⟨hf1a, hf1b⟩]; rfl
      rw [if_pos hfew] at H
      have d2 : decide ((20 : Int) < (l0_1.length : Int)) = false := by simp; omega
      replace H := Option.bind_eq_some_iff.mp H
      obtain ⟨b0, hall, H⟩ := H
      have HALL := Aside0.mk hall
      have HRES := Aside0.mk (Option.some.inj H)
      clear hfew H H' hall
      go_wp2_with (go_at_call 67; (with_reducible refine (table_in.calls _ _ _ _ _ HIN.out).mono ?_); rintro e w2 ⟨rfl, ⟨nq, rfl⟩⟩)
      go_loopw [3, 33] (fun v3 v33 wr => ∃ (k : Nat), k ≤ l0_0.length ∧ v33 = .int .i64 k ∧ Aside0 (allM l0_0 l0_1 (l0_0.drop k) = some b0) ∧ Aside0 (Kd.string.R 9 wr w.heap.size (fun j => w0.heap.size ≤ j) v3 (nm0 ++ (l0_0.take k).map (·.f0))) ∧ Aside0 (wr.heap[w.heap.size]? = some (.cells #[.slice A0_0 l0_0.length c0_0, .slice A0_1 l0_1.length c0_1] 25 (0, 0))) ∧ Aside0 (w0.heap.size ≤ wr.heap.size) ∧ Aside0 (Below w.heap.size w wr)) (fun _ v33 _ => l0_0.length - (intOf v33).toNat)
      case atStart => exact ⟨0, Nat.zero_le _, rfl, HALL, ⟨by rw [List.take_zero, List.map_nil, List.append_nil]; exact Kd.R_drewN HV.out _⟩, ⟨BS.out⟩, ⟨HS.out⟩, ⟨pw_below_drewN BB.out _⟩⟩
      case round =>
        clear HALL HV BS HS BB q0 q1 lt0
        obtain ⟨k, hk, rfl, HA, HV, BS, HS, BB⟩ := hrel
        have q0 : wr.cell? ⟨w.heap.size, 0, none⟩ = some (.slice A0_0 l0_0.length c0_0) := (blk_cell BS.out 0).trans rfl
        have q1 : wr.cell? ⟨w.heap.size, 1, none⟩ = some (.slice A0_1 l0_1.length c0_1) := (blk_cell BS.out 1).trans rfl
        have lt0 := blk_lt BS.out
        by_cases hlt : k < l0_0.length
        · obtain ⟨ad, A1, c1, rfl, m0, m1, hl1', hC1⟩ := at_T58 (Kd.C_below HR0.out BB.out) k (by omega) (by omega)
          have eg' : rd_T58 l0_0 (k : Int) = l0_0[k] := by simp [rd_T58, hlt]
          rw [eg'] at m0 m1 hl1' hC1
          simp only [Int.toNat_natCast] at m0 m1
          have HCm := Aside0.mk hC1
          have HOK := Aside0.mk (HM2.out _ (List.getElem_mem hlt))
          have HT := Aside0.mk (List.take_succ_eq_append_getElem hlt)
          have H := HA.out
          rw [List.drop_eq_getElem_cons hlt] at H
          simp only [allM] at H
          replace H := Option.bind_eq_some_iff.mp H
          obtain ⟨mb, hmb, H⟩ := H
          have HMB := Aside0.mk hmb
          have HLM := Aside0.mk (show (nm0 ++ (l0_0.take k).map (·.f0)).length ≤ 28 by have := HSS.out; simp; omega)
          clear HA hmb eg' hC1
          generalize l0_0[k] = m at *
          cases mb with
          | false =>
            obtain rfl : false = b0 := by simpa using H
            obtain rfl : false = r := by simpa using HRES.out
            clear H
            go_wp2_with (first | (with_reducible refine wpList_store_new rfl (.tmp 6) (.tmp 36) rfl rfl rfl (by kernel_rfl) (by simp) (by simp [Value.oneCell']) ?_) | (go_at_call 68; (with_reducible refine (table_message _ _ _ _ _ _ m _ _ _ (Kd.C_below HR0.out (BB.out.nx (al1 _ _))) HC0.out (Kd.C_below HR1.out (BB.out.nx (al1 _ _))) HC1.out (Kd.C_below HCm.out (al1 _ _)) HOK.out false HMB.out).mono ?_); rintro e w2 ⟨rfl, b1⟩; have BF := Aside0.mk (blk_below (heap_alloc_last _ _) b1); have b2 := (al1 _ _).nx b1; have BS2 := Aside0.mk (blk_below BS.out b2); have HV2 := Aside0.mk (Kd.R_below HV.out b2); have HS2 := Aside0.mk (Nat.le_trans HS.out b2.size); have BB2 := Aside0.mk (BB.out.nx b2); clear b1 b2 BS HV BB HS q0 q1 lt0; clear m0 m1; have f0 : w2.cell? ⟨wr.heap.size, 0, none⟩ = some (.string m.f0) := (blk_cell BF.out 0).trans rfl; have lt2 := blk_lt BF.out))
            exact ⟨rfl, _, results_tmp (t := 2) rfl _ _ _, rfl, BB2.out⟩
          | true =>
            have HA := Aside0.mk (show allM l0_0 l0_1 (l0_0.drop (k + 1)) = some b0 by simpa using H)
            clear H
            go_wp2_with (first | (with_reducible refine wpList_store_new rfl (.tmp 6) (.tmp 36) rfl rfl rfl (by kernel_rfl) (by simp) (by simp [Value.oneCell']) ?_) | (go_at_call 68; (with_reducible refine (table_message _ _ _ _ _ _ m _ _ _ (Kd.C_below HR0.out (BB.out.nx (al1 _ _))) HC0.out (Kd.C_below HR1.out (BB.out.nx (al1 _ _))) HC1.out (Kd.C_below HCm.out (al1 _ _)) HOK.out true HMB.out).mono ?_); rintro e w2 ⟨rfl, b1⟩; have BF := Aside0.mk (blk_below (heap_alloc_last _ _) b1); have b2 := (al1 _ _).nx b1; have BS2 := Aside0.mk (blk_below BS.out b2); have HV2 := Aside0.mk (Kd.R_below HV.out b2); have HS2 := Aside0.mk (Nat.le_trans HS.out b2.size); have BB2 := Aside0.mk (BB.out.nx b2); clear b1 b2 BS HV BB HS q0 q1 lt0; clear m0 m1; have f0 : w2.cell? ⟨wr.heap.size, 0, none⟩ = some (.string m.f0) := (blk_cell BF.out 0).trans rfl; have lt2 := blk_lt BF.out) | (at_builtin; refine Kd.R_append Kd.string (w0 := w) w.heap.size rfl (.tmp 41) (.tmp 44) 76 9 (.string ⟨#[]⟩) 16 rfl Tryz.underlying76 info_string rfl (by decide) (by decide) u3 _ _ [.string _] (fun j => w0.heap.size ≤ j) (fun _ => False) rfl rfl rfl (fun _ hk => hk.elim) (fun j hj => Nat.le_trans HS2.out hj) HV2.out BB2.out BB2.out.size (by have := HLM.out; omega) ?_; intro v1 w3 HV3 BB3 hg3 _; have hne : ∀ j, j < w0.heap.size → some j ≠ u3.ownBlock := (fun j hj e => by have h2 : w0.heap.size ≤ j := HV2.out.1 j e.symm; omega); have BS3 := Aside0.mk ((hg3.block _ (blk_lt BS2.out) (hne _ (by have := HZ.out; omega))).trans BS2.out); have HS3 := Aside0.mk (Nat.le_trans HS2.out hg3.size); have HV4 := Aside0.mk HV3; have BB4 := Aside0.mk BB3; clear hne hg3 HV3 BB3 BS2 HV2 BB2 HS2 f0 lt2))
            go_roundw
            case rel => exact ⟨k + 1, by omega, by go_num, HA, ⟨by rw [HT.out, List.map_append, ← List.append_assoc]; exact HV4.out⟩, BS3, HS3, BB4⟩
            case measure => simp [intOf]; omega
        · have hkl : k = l0_0.length := by omega
          subst hkl
          have H := HA.out
          rw [List.drop_length] at H
          obtain rfl : true = b0 := by simpa [allM] using H
          rw [List.take_length] at HV
          clear HA H hlt hk
          go_wp2
          go_loopw [3, 50] (fun v3 v50 wr => ∃ (k : Nat), k ≤ l0_1.length ∧ v50 = .int .i64 k ∧ Aside0 ((l0_1.take k).all enumB = true) ∧ Aside0 (Kd.string.R 9 wr w.heap.size (fun j => w0.heap.size ≤ j) v3 (nm0 ++ (l0_0.map (·.f0) ++ (l0_1.take k).map (·.f0)))) ∧ Aside0 (wr.heap[w.heap.size]? = some (.cells #[.slice A0_0 l0_0.length c0_0, .slice A0_1 l0_1.length c0_1] 25 (0, 0))) ∧ Aside0 (w0.heap.size ≤ wr.heap.size) ∧ Aside0 (Below w.heap.size w wr)) (fun _ v50 _ => l0_1.length - (intOf v50).toNat)
          case atStart => exact ⟨0, Nat.zero_le _, rfl, ⟨rfl⟩, ⟨by rw [List.take_zero, List.map_nil, List.append_nil]; exact HV.out⟩, BS, HS, BB⟩
          case round =>
            clear HV BS HS BB q0 q1 lt0
            obtain ⟨k, hk, rfl, HA, HV, BS, HS, BB⟩ := hrel
            have q0 : wr.cell? ⟨w.heap.size, 0, none⟩ = some (.slice A0_0 l0_0.length c0_0) := (blk_cell BS.out 0).trans rfl
            have q1 : wr.cell? ⟨w.heap.size, 1, none⟩ = some (.slice A0_1 l0_1.length c0_1) := (blk_cell BS.out 1).trans rfl
            have lt0 := blk_lt BS.out
            by_cases hlt : k < l0_1.length
            · obtain ⟨ad, A1, c1, A2, c2, rfl, m0, m1, m2, hl1', hC1, hl2', hC2⟩ := at_T79 (Kd.C_below HR1.out BB.out) k (by omega) (by omega)
              have eg' : rd_T79 l0_1 (k : Int) = l0_1[k] := by simp [rd_T79, hlt]
              rw [eg'] at m0 m1 m2 hl1' hC1 hl2' hC2
              simp only [Int.toNat_natCast] at m0 m1 m2
              have HCm := Aside0.mk hC1
              have HCn := Aside0.mk hC2
              have HOK := Aside0.mk (show okNames l0_1[k].f1 = true ∧ okNums l0_1[k].f2 = true by simpa using HE2.out _ (List.getElem_mem hlt))
              have HT := Aside0.mk (List.take_succ_eq_append_getElem hlt)
              have HLM := Aside0.mk (show (nm0 ++ (l0_0.map (·.f0) ++ (l0_1.take k).map (·.f0))).length ≤ 48 by have := HSS.out; simp; omega)
              have HME := Aside0.mk (show enumB l0_1[k] = false → l0_1.all enumB = false from fun hq => by rw [List.all_eq_false]; exact ⟨_, List.getElem_mem hlt, by simp [hq]⟩)
              clear eg' hC1 hC2
              generalize l0_1[k] = m at *
              cases hq : enumB m with
              | false =>
                have hr := HRES.out
                rw [HME.out hq] at hr
                obtain rfl : false = r := by simpa using hr
                have HQ := Aside0.mk hq
                clear hr hq
                go_wp2_with (first | (with_reducible refine wpList_store_new rfl (.tmp 8) (.tmp 53) rfl rfl rfl (by kernel_rfl) (by simp) (by simp [Value.oneCell']) ?_) | (go_at_call 69; (with_reducible refine (table_enum m _ _ _ _ _ (Kd.C_below HCm.out (al1 _ _)) (Kd.C_below HCn.out (al1 _ _)) HOK.out.1 HOK.out.2).mono ?_); rw [HQ.out]; rintro e w2 ⟨rfl, b1⟩; have BF := Aside0.mk (blk_below (heap_alloc_last _ _) b1); have b2 := (al1 _ _).nx b1; have BS2 := Aside0.mk (blk_below BS.out b2); have HV2 := Aside0.mk (Kd.R_below HV.out b2); have HS2 := Aside0.mk (Nat.le_trans HS.out b2.size); have BB2 := Aside0.mk (BB.out.nx b2); clear b1 b2 BS HV BB HS q0 q1 lt0; clear m0 m1 m2; have f0 : w2.cell? ⟨wr.heap.size, 0, none⟩ = some (.string m.f0) := (blk_cell BF.out 0).trans rfl; have lt2 := blk_lt BF.out))
                exact ⟨rfl, _, results_tmp (t := 2) rfl _ _ _, rfl, BB2.out⟩
              | true =>
                have HA2 := Aside0.mk (show (l0_1.take (k + 1)).all enumB = true by rw [HT.out, List.all_append, HA.out]; simp [hq])
                have HQ := Aside0.mk hq
                clear hq HA
                go_wp2_with (first | (with_reducible refine wpList_store_new rfl (.tmp 8) (.tmp 53) rfl rfl rfl (by kernel_rfl) (by simp) (by simp [Value.oneCell']) ?_) | (go_at_call 69; (with_reducible refine (table_enum m _ _ _ _ _ (Kd.C_below HCm.out (al1 _ _)) (Kd.C_below HCn.out (al1 _ _)) HOK.out.1 HOK.out.2).mono ?_); rw [HQ.out]; rintro e w2 ⟨rfl, b1⟩; have BF := Aside0.mk (blk_below (heap_alloc_last _ _) b1); have b2 := (al1 _ _).nx b1; have BS2 := Aside0.mk (blk_below BS.out b2); have HV2 := Aside0.mk (Kd.R_below HV.out b2); have HS2 := Aside0.mk (Nat.le_trans HS.out b2.size); have BB2 := Aside0.mk (BB.out.nx b2); clear b1 b2 BS HV BB HS q0 q1 lt0; clear m0 m1 m2; have f0 : w2.cell? ⟨wr.heap.size, 0, none⟩ = some (.string m.f0) := (blk_cell BF.out 0).trans rfl; have lt2 := blk_lt BF.out) | (at_builtin; refine Kd.R_append Kd.string (w0 := w) w.heap.size rfl (.tmp 57) (.tmp 60) 76 9 (.string ⟨#[]⟩) 16 rfl Tryz.underlying76 info_string rfl (by decide) (by decide) u3 _ _ [.string _] (fun j => w0.heap.size ≤ j) (fun _ => False) rfl rfl rfl (fun _ hk => hk.elim) (fun j hj => Nat.le_trans HS2.out hj) HV2.out BB2.out BB2.out.size (by have := HLM.out; omega) ?_; intro v1 w3 HV3 BB3 hg3 _; have hne : ∀ j, j < w0.heap.size → some j ≠ u3.ownBlock := (fun j hj e => by have h2 : w0.heap.size ≤ j := HV2.out.1 j e.symm; omega); have BS3 := Aside0.mk ((hg3.block _ (blk_lt BS2.out) (hne _ (by have := HZ.out; omega))).trans BS2.out); have HS3 := Aside0.mk (Nat.le_trans HS2.out hg3.size); have HV4 := Aside0.mk HV3; have BB4 := Aside0.mk BB3; clear hne hg3 HV3 BB3 BS2 HV2 BB2 HS2 f0 lt2))
                go_roundw
                case rel => exact ⟨k + 1, by omega, by go_num, HA2, ⟨by rw [HT.out, List.map_append, ← List.append_assoc (l0_0.map _), ← List.append_assoc nm0]; exact HV4.out⟩, BS3, HS3, BB4⟩
                case measure => simp [intOf]; omega
            · have hkl : k = l0_1.length := by omega
              subst hkl
              rw [List.take_length] at HV HA
              have hperm : (nm0 ++ (l0_0.map (·.f0) ++ l0_1.map (·.f0))).Perm (plainNames ++ (l0_0.map (·.f0) ++ l0_1.map (·.f0))) := HP.out.append_right _
              have hr : decide (nm0 ++ (l0_0.map (·.f0) ++ l0_1.map (·.f0))).Nodup = r := by
                have h1 := HRES.out
                rw [HA.out, Bool.true_and, Bool.true_and] at h1
                rw [← h1]
                exact decide_eq_decide.2 hperm.nodup_iff
              have hns : ∀ s ∈ nm0 ++ (l0_0.map (·.f0) ++ l0_1.map (·.f0)), s.size ≤ maxLen := by
                intro s hs
                rcases List.mem_append.1 hs with h1 | h1
                · exact plain_small s (HP.out.mem_iff.1 h1)
                · rcases List.mem_append.1 h1 with h1 | h1
                  · exact HM1.out.1 s h1
                  · exact HE1.out.1 s h1
              have hlen : (nm0 ++ (l0_0.map (·.f0) ++ l0_1.map (·.f0))).length ≤ 1000000 := by have := HSS.out; simp; omega
              have HNS := Aside0.mk hns
              have HNL := Aside0.mk hlen
              have HRES2 := Aside0.mk hr
              clear hns hlen hr hperm HA HRES HP
              generalize nm0 ++ (l0_0.map (·.f0) ++ l0_1.map (·.f0)) = ns at *
              obtain ⟨A5, c5, rfl, hc5, hC5⟩ := Kd.R_reads HV.out
              have HC5 := Aside0.mk hC5
              clear hC5 hc5 HV
              go_wp2_with (go_at_call 70; (with_reducible refine (uniq_Str _ _ _ _ HC5.out HNS.out HNL.out).mono ?_); rintro e w2 ⟨rfl, b1⟩)
              exact ⟨rfl, _, results_tmp (t := 2) rfl _ _ _, by rw [← HRES2.out]; rfl, BB.out.nx b1⟩
    · intro x c kl yd yp w2 cnt2 hkey hlk hv hat hrg2 hlt hg2 hs2 hen
      obtain ⟨x', ex, rfl, _⟩ := Maps.keyOf_str Tryz.underlying9 hkey
      obtain rfl : x = x' := encStr_inj ex
      have HCo2 := Aside0.mk (HCo.out.step hlk hat)
      have HG2 := Aside0.mk hrg2
      have HLT := Aside0.mk hlt
      have hr1 : ∀ j, j ≠ w1.heap.size → some j ≠ some w1.heap.size := fun j hj e => hj (by simpa using e)
      have HV2 := Aside0.mk (Kd.R_grown HV.out hg2 (fun j hj => hr1 j (by have h1 : w0.heap.size ≤ j := hj; have := HZ.out.2; omega)))
      have BS2 := Aside0.mk ((hg2.block _ (blk_lt BS.out) (hr1 _ (by have := HZ.out.1; omega))).trans BS.out)
      have BB2 := Aside0.mk (BB.out.grown hg2 BB.out.size (fun j hj => by obtain rfl : w1.heap.size = j := Option.some.inj hj; have := HZ.out.1; omega))
      have HS2 := Aside0.mk (show w0.heap.size ≤ w2.heap.size by rw [hs2]; exact HS.out)
      have hen' : (Instr.entry (.pointer (some ⟨w1.heap.size, 0, none⟩))).run Tryz.prog w2 = .ok (.tuple #[.string (baOf x), .int .i64 c]) w2 := hen
      clear hkey hlk hv hat hrg2 hlt hg2 hs2 hen ex hr1 BS BB HV HCo HS
      go_wp2_with (at_builtin; refine Kd.R_append Kd.string (w0 := w) w.heap.size rfl (.tmp 15) (.tmp 17) 76 9 (.string ⟨#[]⟩) 16 rfl Tryz.underlying76 info_string rfl (by decide) (by decide) u3 (ss.map baOf) (baOf x) [.string (baOf x)] (fun j => w0.heap.size ≤ j) (fun _ => False) rfl rfl rfl (fun _ hk => hk.elim) (fun j hj => Nat.le_trans HS2.out hj) HV2.out BB2.out BB2.out.size (by have := HL.out; rw [List.length_map]; omega) ?_; intro v1 w3 HV3 BB3 hg3 _; have hne : ∀ j, j < w0.heap.size → some j ≠ u3.ownBlock := (fun j hj e => by have h2 : w0.heap.size ≤ j := HV2.out.1 j e.symm; omega); have BS3 := Aside0.mk ((hg3.block _ (blk_lt BS2.out) (hne _ (by have := HZ.out; omega))).trans BS2.out); have HG3 := Aside0.mk (HG2.out.kept hg3 (hne _ (by have := HZ.out; omega)) (hne _ HZ.out.2)); have HS3 := Aside0.mk (Nat.le_trans HS2.out hg3.size); have HV4 := Aside0.mk HV3; have BB4 := Aside0.mk BB3; clear hne hg3 HV3 BB3 BS2 HV2 BB2 HS2 hen')
      go_roundw
      case rel => exact ⟨_, cnt2, ss ++ [x], HG3, HCo2, ⟨by have := HL.out; have := HLT.out; rw [List.length_append, List.length_singleton]; omega⟩, ⟨by rw [List.map_append]; exact HV4.out⟩, BS3, HS3, BB4⟩
      case measure => rw [HG3.out.left_eq, HG.out.left_eq]; exact HLT.out
end
end Go.Proofs.YthikfifoomfjgaaGreat.PA
