/- The statement ValueOwn: for every message that is not too great, what is one's own is the same, and is changed without the other one; no condition. -/
import Derived.Test.YtogcnodgpgiacaaRows
import Derived.WalkKit
import Derived.ProofKit
import Derived.OpenShut
import Derived.ShutString
import Derived.ChangeOld
import Derived.Below
import Derived.SizedLaws
import Derived.ChangeSlices
import Derived.Test.YtogcnodgpgiacaaFew9
import Derived.Test.YtogcnodgpgiacaaRise9
import Derived.Test.YtogcnodgpgiacaaRefSlot9
import Derived.Test.YtogcnodgpgiacaaRefSame2
import Derived.Test.YtogcnodgpgiacaaAwake9
import Derived.Test.YtogcnodgpgiacaaOwnT9
namespace Go.Proofs.Ytogcnodgpgiacaa.valueOwn
open Go.ChangeShapes Go.WideShapes Go.ChangeAt Go.RowKit Go.Tr Go.Proofs.Ytogcnodgpgiacaa
open Go.ChangeMaps (open_string shut_string)
set_option linter.unusedVariables false
set_option linter.unusedSimpArgs false

theorem own : ownKnob Try.prog.godebug = none := by kernel_rfl
theorem laidOut : laidOutB Try.prog = true := by kernel_rfl
/-- What the writes into one's own tree leave: what is older, and the headers of its rows. -/
structure Sep (B C : Nat) (a b : World) : Prop where
  low : Below B a b
  typ : ∀ g t, Tr.typ a g = some t → Tr.typ b g = some t
  hdr : ∀ g o v, (Tr.typ a g = some 27 ∨ Tr.typ a g = some 38) → o % 3 ≠ 0 → a.cell? ⟨g, o, none⟩ = some v → b.cell? ⟨g, o, none⟩ = some v
  num : ∀ g o n, (Tr.typ a g = some 27 ∨ Tr.typ a g = some 38) → o % 3 = 0 → a.cell? ⟨g, o, none⟩ = some (.int .i64 n) → ∃ n', b.cell? ⟨g, o, none⟩ = some (.int .i64 n')
  msg : ∀ g o, Tr.typ a g = some 24 → (a.cell? ⟨g, o, none⟩).isSome = true → (b.cell? ⟨g, o, none⟩).isSome = true
  high : ∀ g o v, C ≤ g → a.cell? ⟨g, o, none⟩ = some v → b.cell? ⟨g, o, none⟩ = some v
theorem Sep.refl (B C : Nat) (a : World) : Sep B C a a := ⟨Below.refl _ _, fun _ _ h => h, fun _ _ _ _ _ h => h, fun _ _ n _ _ h => ⟨n, h⟩, fun _ _ _ h => h, fun _ _ _ _ h => h⟩
theorem Sep.nx {B C : Nat} {a b c : World} (h : Sep B C a b) (k : Below b.heap.size b c) (hB : B ≤ a.heap.size) : Sep B C a c :=
  ⟨h.low.trans (k.mono (by have := h.low.size; omega)), fun g t ht => (typ_eq (k.block g (typ_lt (h.typ g t ht)))).trans (h.typ g t ht),
   fun g o v ht ho hc => have e := h.hdr g o v ht ho hc; (k.cell (block_lt_of_cell e)).trans e,
   fun g o n ht ho hc => by obtain ⟨n', e⟩ := h.num g o n ht ho hc; exact ⟨n', (k.cell (block_lt_of_cell e)).trans e⟩,
   fun g o ht hc => by obtain ⟨u, e⟩ := Option.isSome_iff_exists.1 (h.msg g o ht hc); rw [(k.cell (block_lt_of_cell e)).trans e]; rfl,
   fun g o v hg hc => have e := h.high g o v hg hc; (k.cell (block_lt_of_cell e)).trans e⟩
theorem Sep.setN {B C : Nat} {a b : World} (h : Sep B C a b) {g o : Nat} (hg : Tr.typ a g = some 27 ∨ Tr.typ a g = some 38) (ho : o % 3 = 0) (hB : B ≤ g) (hC : g < C) (n : Int) : Sep B C a (b.setCell ⟨g, o, none⟩ (.int .i64 n)) := by
  have ne : ∀ g' o', (g' ≠ g ∨ o' ≠ o) → (b.setCell ⟨g, o, none⟩ (.int .i64 n)).cell? ⟨g', o', none⟩ = b.cell? ⟨g', o', none⟩ := fun g' o' hne =>
    World.cell?_setCell_other _ _ _ _ (fun e => by injection e with e1 e2; rcases hne with h | h <;> simp_all)
  refine ⟨h.low.setCell (p := ⟨g, o, none⟩) hB _, fun g' t ht => (typ_set _ _ _ _).trans (h.typ g' t ht), fun g' o' v ht ho' hc => ?_, fun g' o' m ht ho' hc => ?_, fun g' o' ht hc => ?_, fun g' o' v hg' hc => ?_⟩
  · rw [ne g' o' (.inr (fun e => by subst e; omega))]; exact h.hdr g' o' v ht ho' hc
  · obtain ⟨n', e⟩ := h.num g' o' m ht ho' hc
    by_cases e1 : g' = g ∧ o' = o
    · obtain ⟨rfl, rfl⟩ := e1
      exact ⟨n, World.cell?_setCell_same _ _ _ e⟩
    · exact ⟨n', (ne g' o' (by by_cases e2 : g' = g <;> simp_all)).trans e⟩
  · rw [ne g' o' (.inl (fun e => by subst e; rw [ht] at hg; simp at hg))]; exact h.msg g' o' ht hc
  · rw [ne g' o' (.inl (by omega))]; exact h.high g' o' v hg' hc
theorem Sep.setM {B C : Nat} {a b : World} (h : Sep B C a b) {g o : Nat} (hg : Tr.typ a g = some 24) (hB : B ≤ g) (hC : g < C) (u : Value) : Sep B C a (b.setCell ⟨g, o, none⟩ u) := by
  have ne : ∀ g' o', g' ≠ g → (b.setCell ⟨g, o, none⟩ u).cell? ⟨g', o', none⟩ = b.cell? ⟨g', o', none⟩ := fun g' o' hne =>
    World.cell?_setCell_other _ _ _ _ (fun e => by injection e with e1 e2; exact hne e1.symm)
  refine ⟨h.low.setCell (p := ⟨g, o, none⟩) hB _, fun g' t ht => (typ_set _ _ _ _).trans (h.typ g' t ht), fun g' o' v ht ho' hc => ?_, fun g' o' m ht ho' hc => ?_, fun g' o' ht hc => ?_, fun g' o' v hg' hc => ?_⟩
  · rw [ne g' o' (fun e => by subst e; rw [hg] at ht; simp at ht)]; exact h.hdr g' o' v ht ho' hc
  · rw [ne g' o' (fun e => by subst e; rw [hg] at ht; simp at ht)]; exact h.num g' o' m ht ho' hc
  · exact isSome_set (h.msg g' o' ht hc) _ _
  · rw [ne g' o' (by omega)]; exact h.high g' o' v hg' hc
structure Inv (B : Nat) (a : World) (h : Value) (b : World) : Prop where
  sep : Sep B a.heap.size a b
  box : b.cell? ⟨a.heap.size, 0, none⟩ = some h
theorem Inv.nx {B : Nat} {a b c : World} {h : Value} (x : Inv B a h b) (k : Below b.heap.size b c) (hB : B ≤ a.heap.size) : Inv B a h c := ⟨x.sep.nx k hB, (k.cell (block_lt_of_cell x.box)).trans x.box⟩
theorem Inv.setN {B : Nat} {a b : World} {h : Value} (x : Inv B a h b) {g o : Nat} (hg : Tr.typ a g = some 27 ∨ Tr.typ a g = some 38) (ho : o % 3 = 0) (hB : B ≤ g) (n : Int) : Inv B a h (b.setCell ⟨g, o, none⟩ (.int .i64 n)) := by
  have hC : g < a.heap.size := by rcases hg with h | h <;> exact typ_lt h
  exact ⟨x.sep.setN hg ho hB hC n, (World.cell?_setCell_other _ _ _ _ (fun e => by injection e with e1; omega)).trans x.box⟩
theorem Inv.setM {B : Nat} {a b : World} {h : Value} (x : Inv B a h b) {g o : Nat} (hg : Tr.typ a g = some 24) (hB : B ≤ g) (u : Value) : Inv B a h (b.setCell ⟨g, o, none⟩ u) := by
  have hC : g < a.heap.size := typ_lt hg
  exact ⟨x.sep.setM hg hB hC u, (World.cell?_setCell_other _ _ _ _ (fun e => by injection e with e1; omega)).trans x.box⟩
/-- A row's header, whether there is a row or none. -/
theorem TM.open {B : Nat} {w : World} {c : Value} (h : TM B w c) : ∃ a l, c = .slice a l l ∧ l ≤ 1099511627776 ∧ ∀ i, i < l → ∃ g, a = some ⟨g, 0, none⟩ ∧ B ≤ g ∧ typ w g = some 24 ∧ (w.cell? ⟨g, i, none⟩).isSome = true := by
  rcases h with rfl | ⟨g, l, rfl, hl, hg, ht, hc⟩
  · exact ⟨none, 0, rfl, by omega, fun i hi => by omega⟩
  · exact ⟨_, l, rfl, hl, fun i hi => ⟨g, rfl, hg, ht, hc i hi⟩⟩
theorem TV.open {B : Nat} {w : World} {c : Value} (h : TV B w c) : ∃ a l, c = .slice a l l ∧ l ≤ 1099511627776 ∧ ∀ i, i < l → ∃ g, a = some ⟨g, 0, none⟩ ∧ B ≤ g ∧ typ w g = some 38 ∧ ∃ n c, w.cell? ⟨g, i * 3, none⟩ = some (.int .i64 n) ∧ w.cell? ⟨g, i * 3 + 2, none⟩ = some c ∧ TM B w c := by
  rcases h with rfl | ⟨g, l, rfl, hl, hg, ht, hc⟩
  · exact ⟨none, 0, rfl, by omega, fun i hi => by omega⟩
  · exact ⟨_, l, rfl, hl, fun i hi => ⟨g, rfl, hg, ht, hc i hi⟩⟩
theorem TF.open {B : Nat} {w : World} {c : Value} (h : TF B w c) : ∃ a l, c = .slice a l l ∧ l ≤ 1099511627776 ∧ ∀ i, i < l → ∃ g, a = some ⟨g, 0, none⟩ ∧ B ≤ g ∧ typ w g = some 27 ∧ ∃ n c, w.cell? ⟨g, i * 3, none⟩ = some (.int .i64 n) ∧ w.cell? ⟨g, i * 3 + 2, none⟩ = some c ∧ TV B w c := by
  rcases h with rfl | ⟨g, l, rfl, hl, hg, ht, hc⟩
  · exact ⟨none, 0, rfl, by omega, fun i hi => by omega⟩
  · exact ⟨_, l, rfl, hl, fun i hi => ⟨g, rfl, hg, ht, hc i hi⟩⟩
theorem few_args1 {L n : Nat} {w w1 : World} {v0 : Value} {m : Msg} {t2 : TypeId} (hb : Below w.heap.size w w1) (h0 : RMsg L 0 w (n + 1) [v0] m) (hL : 1 ≤ L) :
    RowOf L 0 (w1.alloc (.cells #[v0] t2)) 1 (RMsg L 0 (w1.alloc (.cells #[v0] t2)) (n + 1)) (.slice (some ⟨w1.heap.size, 0, none⟩) 1 1) [m] := by
  refine msgs_row (b := w1.heap.size) (cs := [v0]) (ms := [m]) (t := t2) hL (by show 1 ≤ maxLen; unfold maxLen; omega) (Nat.zero_le _) (heap_alloc_new w1 _) rfl ?_
  intro i h1' h2'
  match i, h1' with
  | 0, _ => exact RMsg.below (hb.nx (al1 _ _)) (n + 1) h0
theorem ref_one {n : Nat} (w : World) (a a' : Option Addr) (cap cap' : Nat) (m : Msg) (r : RMsg 10000 0 w (n + 1) [.slice a m.f.length cap] m) (r' : RMsg 10000 0 w (n + 1) [.slice a' m.f.length cap'] m) :
    Calls Try.prog 14 #[.agg #[.slice a m.f.length cap], .agg #[.slice a' m.f.length cap']] w fun e w' => e = .returned (.bool true) ∧ Below w.heap.size w w' :=
  (ref_same 10000 0 (by unfold maxLen; omega) (n + 1) w [_] [_] m m r r').mono (by rintro e w' ⟨rfl, b⟩; exact ⟨by rw [same_yes rfl], b⟩)
/-- A message that is one's own. -/
def OwnOut (n : Nat) (m : Msg) (w : World) (e : Ending) (w' : World) : Prop :=
  ∃ a cap, e = .returned (.agg #[.slice a m.f.length cap]) ∧ RMsg 10000 0 w' (n + 1) [.slice a m.f.length cap] m ∧ Below w.heap.size w w'
theorem rown_out (n : Nat) (w : World) (a : Option Addr) (cap : Nat) (m : Msg) (h : RMsg 10000 0 w (n + 1) [.slice a m.f.length cap] m) :
    Calls Try.prog 16 #[.agg #[.slice a m.f.length cap]] w (OwnOut n m w) := by
  refine (ref_own 10000 (by omega) (n + 1) w [_] m h).mono ?_
  rintro e w' ⟨ds, rfl, r, b⟩
  have r0 := RMsg.keep (Nat.zero_le _) (Keeps.refl _ _) _ _ (Nat.le_refl _) r
  obtain ⟨c, rfl, -⟩ := r
  obtain ⟨a', cap', rfl⟩ := rmsg_slice r0
  exact ⟨a', cap', rfl, r0, b⟩
/-! THE WALK -/
set_option maxHeartbeats 8000000 in
set_option maxRecDepth 100000 in
theorem walk (n : Nat) (w : World) (cs0 : List Value) (x0 : Msg) (h0 : RMsg Great 0 w n cs0 x0) :
    Calls Try.prog 4 #[.agg cs0.toArray] w fun e w' => e = .returned (.bool true) ∧ Below w.heap.size w w' := by
  have HA := Lib.hid fun w' => Go.Proofs.Ytogcnodgpgiacaa.awake w'
  have H0 := Lib.hid (RMsg.keep (Nat.le_refl 0) (Keeps.refl 0 w) n (n + 1) (by omega) h0)
  obtain ⟨v0, rfl, o0⟩ := rmsg_one Great 0 n w _ _ h0
  obtain ⟨a0, cap0, rfl⟩ := rmsg_slice H0.out
  clear h0 o0
  go_enter Try.func4, Try.ntmps4
  go_wp2_with fail
  refine (HA.out _).mono ?_; rintro e w1 ⟨rfl, b1⟩
  have Q0 := Lib.hid ((Box1.new w (.slice a0 x0.f.length cap0) 24).below b1)
  have B1 := Lib.hid ((al1 _ _).nx b1)
  clear b1
  obtain ⟨l0, s0⟩ := Q0.out
  go_wp2_with fail
  refine (law_few Great (n + 1) (by decide) _ _ _ (few_args1 B1.out H0.out (by decide))).mono ?_; rintro e w2 ⟨⟨b, rfl, hb⟩, b2⟩
  have b2' := (al1 _ _).nx b2
  have R0 := Lib.hid (Q0.out.below b2')
  have B2 := Lib.hid (B1.out.nx b2')
  clear b2 b2' l0 s0 Q0 B1
  cases b with
  | false =>
    go_wp2_with fail
    exact ⟨rfl, _, results_tmp (t := 2) rfl _ _ _, rfl, B2.out⟩
  | true =>
    have hl0 := hb rfl x0 (by simp)
    clear hb
    have M0 := Lib.hid (H0.out.shrink (L' := 10000) (n + 1) (by have := hl0.1; omega))
    clear hl0 H0
    obtain ⟨l0, s0⟩ := R0.out
    go_wp2_with fail
    refine (rown_out n _ _ _ x0 (RMsg.below B2.out (n + 1) M0.out)).mono ?_; rintro e w3 ⟨aw, capw, rfl, rw3, b3⟩
    have R0' := Lib.hid (R0.out.below b3)
    have B3 := Lib.hid (B2.out.nx b3)
    have MW := Lib.hid rw3
    clear b3 rw3 l0 s0 R0
    obtain ⟨l0, s0⟩ := R0'.out
    go_wp2_with fail
    refine (value_ownT 10000 0 n (by omega) _ [_] x0 (RMsg.below (B3.out.nx (al1 _ _)) (n + 1) M0.out)).mono ?_; rintro e w4 ⟨v4, rfl, r4, t4, b4⟩
    obtain ⟨a4, cap4, rfl⟩ := rmsg_slice r4
    obtain ⟨a5, l5, e5, hl5, hc5⟩ := TF.open t4
    injection e5 with e6 e7 e8
    subst e6 e7 e8
    have SW := Lib.hid (((Box1.new w3 (.slice aw x0.f.length capw) 24)).below b4)
    have S0 := Lib.hid ((R0'.out.below (al1 w3 (.cells #[.slice aw x0.f.length capw] 24))).below b4)
    have B4 := Lib.hid ((B3.out.nx (al1 w3 (.cells #[.slice aw x0.f.length capw] 24))).nx b4)
    have MW4 := Lib.hid (RMsg.below ((al1 w3 (.cells #[.slice aw x0.f.length capw] 24)).nx b4) (n + 1) MW.out)
    have M4 := Lib.hid (RMsg.keep (Nat.zero_le _) (Keeps.refl _ _) _ _ (Nat.le_refl _) r4)
    have hBs : (w3.alloc (.cells #[.slice aw x0.f.length capw] 24)).heap.size ≤ w4.heap.size := b4.size
    have hKs : w3.heap.size < (w3.alloc (.cells #[.slice aw x0.f.length capw] 24)).heap.size := by simp
    have hK0 : w.heap.size < (w3.alloc (.cells #[.slice aw x0.f.length capw] 24)).heap.size := by have := R0'.out.1; simp; omega
    have M0B : Hid (∀ w', Below (w3.alloc (.cells #[.slice aw x0.f.length capw] 24)).heap.size w4 w' → RMsg 10000 0 w' (n + 1) [.slice a0 x0.f.length cap0] x0 ∧ RMsg 10000 0 w' (n + 1) [.slice aw x0.f.length capw] x0 ∧ Below w.heap.size w w') := fun w' hw =>
      have q := b4.trans hw
      ⟨RMsg.below ((B3.out.nx (al1 _ _)).nx q) (n + 1) M0.out, RMsg.below ((al1 _ _).nx q) (n + 1) MW.out, (B3.out.nx (al1 _ _)).nx q⟩
    generalize (w3.alloc (.cells #[.slice aw x0.f.length capw] 24)).heap.size = B at *
    generalize w3.heap.size = KW at *
    clear b4 r4 t4 l0 s0 R0' B3 MW
    obtain ⟨l0, s0⟩ := S0.out
    obtain ⟨lw, sw⟩ := SW.out
    have HC5 := Lib.hid hc5
    clear hc5
    go_wp2_with fail
    refine (ref_one (n := n) _ _ _ _ _ x0 (RMsg.below (al1 _ _) (n + 1) M4.out) (RMsg.below (al1 _ _) (n + 1) MW4.out)).mono ?_; rintro e w5 ⟨rfl, b5⟩
    have I5 := Lib.hid (Inv.nx (B := B) (h := .slice a4 x0.f.length x0.f.length) ⟨(Sep.refl B w4.heap.size w4).nx (al1 w4 (.cells #[.slice a4 x0.f.length x0.f.length] 24)) hBs, by simp [go_sem]⟩ b5 hBs)
    have C0 := Lib.hid s0
    have CW := Lib.hid sw
    clear b5 M4 MW4 S0 SW l0 s0 lw sw
    go_wp2_with fail
    go_loopw [7] (fun iv wr => ∃ i : Nat, i ≤ x0.f.length ∧ iv = .int .i64 i ∧ Hid (Inv B w4 (.slice a4 x0.f.length x0.f.length) wr)) (fun iv _ => x0.f.length - (intOf iv).toNat)
    case atStart => exact ⟨0, by omega, rfl, I5⟩
    case round =>
      clear I5
      obtain ⟨i, hi, rfl, HI⟩ := hrel
      obtain ⟨wA, rfl⟩ : ∃ wA, wA = wr := ⟨_, rfl⟩
      have m6 := HI.out.box
      by_cases hlt : i < x0.f.length
      · obtain ⟨g, rfl, hBg, htg, nI, dV, hc1, hc2, hTV⟩ := HC5.out i hlt
        obtain ⟨aV, lV, rfl, hlV, hcV⟩ := TV.open hTV
        have HCV := Lib.hid hcV
        have HC1 := Lib.hid hc1
        have HC2 := Lib.hid hc2
        clear hTV hcV hc1 hc2
        go_wp2_with fail
        go_loopw [8] (fun kv wr => ∃ k : Nat, k ≤ lV ∧ kv = .int .i64 k ∧ Hid (Inv B w4 (.slice (some ⟨g, 0, none⟩) x0.f.length x0.f.length) wr)) (fun kv _ => lV - (intOf kv).toNat)
        case atStart => exact ⟨0, by omega, rfl, HI⟩
        case round =>
          clear HI
          obtain ⟨k, hk, rfl, HJ⟩ := hrel
          obtain ⟨wB, rfl⟩ : ∃ wB, wB = wr := ⟨_, rfl⟩
          have m6 := HJ.out.box
          have hv2 := HJ.out.sep.hdr g (i * 3 + 2) _ (.inl htg) (by omega) HC2.out
          by_cases hlt2 : k < lV
          · obtain ⟨gV, rfl, hBgV, htV, nN, dM, hd1, hd2, hTM⟩ := HCV.out k hlt2
            obtain ⟨aM, lM, rfl, hlM, hcM⟩ := TM.open hTM
            have HCM := Lib.hid hcM
            have HD2 := Lib.hid hd2
            obtain ⟨nN', hn'⟩ := HJ.out.sep.num gV (k * 3) nN (.inr htV) (by omega) hd1
            have hfz : wB.frozen? ⟨gV, k * 3, none⟩ = false := typ_frozen (HJ.out.sep.typ _ _ htV) _
            have q1 := block_lt_of_cell m6
            have q2 := block_lt_of_cell hv2
            have q3 := block_lt_of_cell hn'
            clear hTM hcM hd1 hd2
            go_upto_region 15 with fail
            go_region
            have HK := Lib.hid ((HJ.out.setN (o := k * 3) (.inr htV) (by omega) hBgV (wrap64 (nN' + 1))).nx ((Below.refl _ _).drew) hBs)
            generalize (wB.setCell ⟨gV, k * 3, none⟩ (.int .i64 (wrap64 (nN' + 1)))).drew = wC at *
            clear m6 hv2 hn' hfz q1 q2 q3
            go_wp2_with fail
            go_loopw [9] (fun jv wr => ∃ j : Nat, j ≤ lM ∧ jv = .int .i64 j ∧ Hid (Inv B w4 (.slice (some ⟨g, 0, none⟩) x0.f.length x0.f.length) wr)) (fun jv _ => lM - (intOf jv).toNat)
            case atStart => exact ⟨0, by omega, rfl, HK⟩
            case round =>
              clear HK HJ
              obtain ⟨j, hj, rfl, HL⟩ := hrel
              obtain ⟨wD, rfl⟩ : ∃ wD, wD = wr := ⟨_, rfl⟩
              have m6 := HL.out.box
              have hv2 := HL.out.sep.hdr g (i * 3 + 2) _ (.inl htg) (by omega) HC2.out
              have hv3 := HL.out.sep.hdr gV (k * 3 + 2) _ (.inr htV) (by omega) HD2.out
              have q1 := block_lt_of_cell m6
              have q2 := block_lt_of_cell hv2
              have q3 := block_lt_of_cell hv3
              by_cases hlt3 : j < lM
              · obtain ⟨gM, rfl, hBgM, htM, hsM⟩ := HCM.out j hlt3
                obtain ⟨uM, hu⟩ := Option.isSome_iff_exists.1 (HL.out.sep.msg gM j htM hsM)
                have hfz : wD.frozen? ⟨gM, j, none⟩ = false := typ_frozen (HL.out.sep.typ _ _ htM) _
                have q4 := block_lt_of_cell hu
                go_wp2_with fail
                refine ⟨⟨j + 1, by omega, rfl, ?_⟩, ?_⟩
                · exact (HL.out.setM htM hBgM _).nx (al1 _ _) hBs
                · simp only [intOf, Int.toNat_natCast]
                  omega
              · obtain rfl : j = lM := by omega
                go_wp2_with fail
                refine ⟨⟨k + 1, by omega, rfl, HL⟩, ?_⟩
                simp only [intOf, Int.toNat_natCast]
                omega
          · obtain rfl : k = lV := by omega
            obtain ⟨nI', hi'⟩ := HJ.out.sep.num g (i * 3) nI (.inl htg) (by omega) HC1.out
            have hfz : wB.frozen? ⟨g, i * 3, none⟩ = false := typ_frozen (HJ.out.sep.typ _ _ htg) _
            have q1 := block_lt_of_cell m6
            have q2 := block_lt_of_cell hv2
            go_upto_region 20 with fail
            go_region
            have HK := Lib.hid ((HJ.out.setN (o := i * 3) (.inl htg) (by omega) hBg (wrap64 (nI' + 1))).nx ((Below.refl _ _).drew) hBs)
            generalize (wB.setCell ⟨g, i * 3, none⟩ (.int .i64 (wrap64 (nI' + 1)))).drew = wC at *
            go_wp2_with fail
            refine ⟨⟨i + 1, by omega, rfl, HK⟩, ?_⟩
            simp only [intOf, Int.toNat_natCast]
            omega
      · obtain rfl : i = x0.f.length := by omega
        have lw := HI.out.sep.low
        have s0 := (lw.cell (p := ⟨w.heap.size, 0, none⟩) hK0).trans C0.out
        have sw := (lw.cell (p := ⟨KW, 0, none⟩) hKs).trans CW.out
        have q1 := block_lt_of_cell s0
        have q2 := block_lt_of_cell sw
        obtain ⟨k0, kw, bw⟩ := M0B.out _ lw
        have K0 := Lib.hid k0
        have KW' := Lib.hid kw
        have BW := Lib.hid bw
        clear k0 kw bw lw M0B C0 CW
        go_wp2_with fail
        refine (ref_one (n := n) _ _ _ _ _ x0 K0.out KW'.out).mono ?_; rintro e w6 ⟨rfl, b6⟩
        go_wp2_with fail
        exact ⟨rfl, _, results_tmp (t := 2) rfl _ _ _, rfl, BW.out.nx b6⟩

/-! THE ROW -/
set_option maxRecDepth 100000 in
theorem lifted (os : Os) (started : os.Started) (H : Type) (enc : TypeId × Value → H) :
    ReturnsInHanded {} Try.checked os 4 .any (Rows.valueOwnSpec.pre6 enc Try.prog Try.f4 Rows.valueOwnRow.domain false) (Rows.valueOwnSpec.post enc Try.prog Try.f4 false true false false) := by
  refine returnsInHanded_of_change_sized (C := Try.checked) own started (by kernel_rfl) Try.func4
    (ChangeSpec.witness6 (enc := enc) (C := Try.checked) false ⟨#[], #[.agg #[.slice none 0 0]], []⟩ 8 (by kernel_rfl) (by kernel_rfl) (by kernel_rfl) (by kernel_rfl)) ?_
  intro W base args ds gs before hval0 hW hcnd hsz0 _
  have hsz : (DataW.weightsEach Try.prog (Try.f4.params.toList ++ Rows.valueOwnSpec.plain.varTypes Try.prog) (ds ++ gs)).all (· ≤ reachBytes) = true := hsz0
  have hval : ∀ (j : Nat) t v, Try.f4.params[j]? = some t → args[j]? = some v → Value.okWide Try.prog W .any base t v := hval0
  have hW' := hW
  obtain ⟨p, q, hA0, hV, rfl, hfz, hnd⟩ := hW
  have hA : DataW.TrodAll enc Try.prog W 0 (fun _ => true) true Try.f4.params.toList args.toList ds p := hA0
  rw [Try.params4] at hA hval hsz
  obtain ⟨v0, vs0, d0, ds0, p0, q0, hargs, rfl, rfl, h0, r0⟩ := trodAll_cons hA
  obtain ⟨rfl, rfl, rfl⟩ := trodAll_nil r0
  obtain rfl : args = #[v0] := by cases args; simp_all
  obtain ⟨rfl, rfl⟩ := trodVars_none hV
  have k0 := h0
  have lt0 : ∀ x ∈ p0, x.block < W.heap.size := by obtain ⟨m, hm⟩ := k0; exact DataW.trod_lt m _ _ _ hm
  have hw0 : ∀ z ∈ d0.weights Try.prog 24, z ≤ reachBytes := fun z hz => by simpa using List.all_eq_true.1 hsz z (DataW.weights_mem_each (j := 0) rfl rfl z hz)
  obtain ⟨c0, rfl, -⟩ := okWide_struct Try.underlying24 (hval 0 24 v0 rfl rfl)
  obtain ⟨fuel0, hf0⟩ := h0
  obtain ⟨x0, g0⟩ : ∃ x, RMsg Great 0 W fuel0 c0.toList x := open_msg fuel0 _ _ hf0 hw0
  clear hA0 hval0 hsz0 hsz
  refine (walk (fuel0) W c0.toList x0 (RMsg.keep (Nat.le_refl _) (Keeps.refl _ _) _ _ (by omega) g0)).mono fun e W' ⟨he, bel⟩ => ?_
  subst he
  exact ⟨_, rfl, _, _, _, [], _, [], hW', trodAll_mk1 (shut_bool Try.underlying4 _), (trodAll_cons_mk (Below.trod laidOut (by kernel_rfl) (of_decide_eq_true (by kernel_rfl)) k0 bel lt0) trodAll_mk0), rfl, bel.frame _, fun h => by cases h⟩

theorem over : Rows.valueOwnRow.holds Try.pinned (OpenSpec.ofChange Rows.valueOwnSpec) :=
  OpenClaim.holds_of_wide 4 Try.f4 rfl rfl rfl rfl rfl rfl rfl ⟨rfl, rfl, rfl, rfl, rfl⟩ rfl rfl rfl rfl rfl (by kernel_rfl) Try.func4 (by kernel_rfl)
    (of_decide_eq_true (by kernel_rfl)) (by unfold Func.isWrapper; first | (rw [if_pos (by decide +kernel)]; kernel_rfl) | (rw [if_neg (by decide +kernel)]; exact ⟨rfl, rfl⟩))
    (fun os started H enc _ => lifted os started H enc)

/-- THE STATEMENT -/
theorem proved : Rows.ValueOwnSaid := over
#print axioms proved
end Go.Proofs.Ytogcnodgpgiacaa.valueOwn
