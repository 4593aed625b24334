/- Contracts of the reference's functions of chapter 4, by the plain functions of UtfPlain. -/
import Derived.Test.YtpgbipkcjbhkdaaUtfFine
namespace Go.Proofs.Ytpgbipkcjbhkdaa
open Go.RowKit
set_option linter.unusedVariables false
set_option linter.unusedSimpArgs false
/-- The reference's sign, from its first byte's need on. -/
def SignPost (l : List Int) (p : Nat) (w : World) (e : Ending) (w' : World) : Prop := e = .returned (.int .i64 (Utf.sgn (l.drop p))) ∧ w = w'
theorem ret_int' {k : IntKind} {a b : Int} (h : a = b) : Ending.returned (.int k a) = .returned (.int k b) := by rw [h]
set_option maxHeartbeats 4000000 in
theorem ref_sign (w : World) (a : Option Addr) (cap : Nat) (l : List Int) (p : Nat) (hp : p < l.length) (h : Bytes w (.slice a l.length cap) l) (hm : l.length ≤ 140737488355328) :
    Calls Try.prog 30 #[.slice a l.length cap, .int .i64 p] w (SignPost l p w) := by
  obtain ⟨a0, cap0, e0, h1, h2, h3, h5, h4⟩ := h
  obtain ⟨rfl, -, rfl⟩ : a = a0 ∧ l.length = l.length ∧ cap = cap0 := by simpa using e0
  obtain ⟨b, off, rfl, hc⟩ := h4 (by intro h; subst h; simp at hp)
  clear e0 h4 h2 h5
  have HC := Lib.hid hc
  have HB := Lib.hid (Utf.getD_range l h3)
  clear hc h3
  have c0 := HC.out p hp
  obtain ⟨r0, r1⟩ := HB.out p
  have HS := Lib.hid (Utf.sgn_at l p hp)
  have hk := Utf.need_cases (l.getD p 0)
  generalize hcc : l.getD p 0 = c at *
  have HCC := Lib.hid hcc
  clear hcc
  rcases hk with ⟨hn, hr⟩ | ⟨hn, hr⟩ | ⟨hn, hr⟩ | ⟨hn, hr⟩ | ⟨hn, hr⟩
  · have hs : Utf.sgn (l.drop p) = 1 := by exact (HS.out _ hn).1 (by omega)
    have HF := Lib.hid hs
    clear hs hn
    go_enter Try.func30, Try.ntmps30
    go_wp2
    go_ret
    exact ⟨ret_int' (by rw [HF.out]; rfl), rfl⟩
  · obtain ⟨hr1, hr2⟩ := hr
    have hs := (HS.out _ hn).2
    have HF := Lib.hid hs
    clear hs hn
    have t1 : decide (c ≤ 127) = false := by simp; omega
    by_cases hlen : p + 2 ≤ l.length
    · have t2 : decide ((l.length : Int) < p + 2) = false := by simp; omega
      go_enter Try.func30, Try.ntmps30
      go_wp2
      go_loop [7] (fun i => ∃ k : Nat, 1 ≤ k ∧ k ≤ 2 ∧ Hid (∀ j, 1 ≤ j → j < k → Utf.cont (l.getD (p + j) 0) = true) ∧ i = .int .i64 k) (fun i => 2 - (intOf i).toNat)
      case atStart => exact ⟨1, by omega, by omega, (fun j h1 h2 => absurd h2 (by omega)), rfl⟩
      case round =>
        obtain ⟨k, hk1, hk2, hall, rfl⟩ := hrel
        by_cases hk : k < 2
        · have ck := HC.out (p + k) (by omega)
          obtain ⟨x0, x1⟩ := HB.out (p + k)
          by_cases q1 : l.getD (p + k) 0 < 128
          · have hz : Utf.sgn (l.drop p) = 0 := HF.out.2 (by omega) (by
              rintro ⟨-, q, -⟩
              have := q k hk1 hk
              simp only [Utf.cont, Bool.and_eq_true, decide_eq_true_eq] at this
              omega)
            have HZ := Lib.hid hz
            clear hz
            generalize l.getD (p + k) 0 = x at *
            go_wp2
            go_ret
            exact ⟨ret_int' (by rw [HZ.out]; rfl), rfl⟩
          · by_cases q2 : 191 < l.getD (p + k) 0
            · have hz : Utf.sgn (l.drop p) = 0 := HF.out.2 (by omega) (by
                rintro ⟨-, q, -⟩
                have := q k hk1 hk
                simp only [Utf.cont, Bool.and_eq_true, decide_eq_true_eq] at this
                omega)
              have HZ := Lib.hid hz
              clear hz
              generalize l.getD (p + k) 0 = x at *
              go_wp2
              go_ret
              exact ⟨ret_int' (by rw [HZ.out]; rfl), rfl⟩
            · have hnew : ∀ j, 1 ≤ j → j < k + 1 → Utf.cont (l.getD (p + j) 0) = true := by
                intro j j1 j2
                rcases Nat.lt_or_ge j k with h | h
                · exact hall.out j j1 h
                · have : j = k := by omega
                  subst this
                  simp only [Utf.cont, Bool.and_eq_true, decide_eq_true_eq]; omega
              have HN := Lib.hid hnew
              clear hnew
              generalize l.getD (p + k) 0 = x at *
              go_wp2
              go_round
              case rel => exact ⟨k + 1, by omega, by omega, HN.out, by go_num⟩
              case measure => simp [intOf]; omega
        · have hk3 : k = 2 := by omega
          subst hk3
          have c1 := HC.out (p + 1) (by omega)
          obtain ⟨x0, x1⟩ := HB.out (p + 1)
          have hsec : Hid ((Utf.second c (l.getD (p + 1) 0) = true → Utf.sgn (l.drop p) = 2) ∧ (Utf.second c (l.getD (p + 1) 0) = false → Utf.sgn (l.drop p) = 0)) :=
            ⟨fun q => HF.out.1 (by omega) ⟨hlen, hall.out, q⟩, fun q => HF.out.2 (by omega) (by rintro ⟨-, -, q'⟩; rw [q] at q'; simp at q')⟩
          generalize l.getD (p + 1) 0 = d at *
          clear hall HF HC HB
          have hz : Utf.sgn (l.drop p) = 2 := hsec.out.1 (by simp [Utf.second]; omega)
          have HZ := Lib.hid hz
          clear hz hsec
          go_wp2
          go_ret
          exact ⟨ret_int' (by rw [HZ.out]; rfl), rfl⟩
    · go_enter Try.func30, Try.ntmps30
      go_wp2
      go_ret
      exact ⟨ret_int' (by rw [HF.out.2 (by omega) (by intro h; omega)]; rfl), rfl⟩
  · obtain ⟨hr1, hr2⟩ := hr
    have hs := (HS.out _ hn).2
    have HF := Lib.hid hs
    clear hs hn
    have t1 : decide (c ≤ 127) = false := by simp; omega
    by_cases hlen : p + 3 ≤ l.length
    · have t2 : decide ((l.length : Int) < p + 3) = false := by simp; omega
      go_enter Try.func30, Try.ntmps30
      go_wp2
      go_loop [7] (fun i => ∃ k : Nat, 1 ≤ k ∧ k ≤ 3 ∧ Hid (∀ j, 1 ≤ j → j < k → Utf.cont (l.getD (p + j) 0) = true) ∧ i = .int .i64 k) (fun i => 3 - (intOf i).toNat)
      case atStart => exact ⟨1, by omega, by omega, (fun j h1 h2 => absurd h2 (by omega)), rfl⟩
      case round =>
        obtain ⟨k, hk1, hk2, hall, rfl⟩ := hrel
        by_cases hk : k < 3
        · have ck := HC.out (p + k) (by omega)
          obtain ⟨x0, x1⟩ := HB.out (p + k)
          by_cases q1 : l.getD (p + k) 0 < 128
          · have hz : Utf.sgn (l.drop p) = 0 := HF.out.2 (by omega) (by
              rintro ⟨-, q, -⟩
              have := q k hk1 hk
              simp only [Utf.cont, Bool.and_eq_true, decide_eq_true_eq] at this
              omega)
            have HZ := Lib.hid hz
            clear hz
            generalize l.getD (p + k) 0 = x at *
            go_wp2
            go_ret
            exact ⟨ret_int' (by rw [HZ.out]; rfl), rfl⟩
          · by_cases q2 : 191 < l.getD (p + k) 0
            · have hz : Utf.sgn (l.drop p) = 0 := HF.out.2 (by omega) (by
                rintro ⟨-, q, -⟩
                have := q k hk1 hk
                simp only [Utf.cont, Bool.and_eq_true, decide_eq_true_eq] at this
                omega)
              have HZ := Lib.hid hz
              clear hz
              generalize l.getD (p + k) 0 = x at *
              go_wp2
              go_ret
              exact ⟨ret_int' (by rw [HZ.out]; rfl), rfl⟩
            · have hnew : ∀ j, 1 ≤ j → j < k + 1 → Utf.cont (l.getD (p + j) 0) = true := by
                intro j j1 j2
                rcases Nat.lt_or_ge j k with h | h
                · exact hall.out j j1 h
                · have : j = k := by omega
                  subst this
                  simp only [Utf.cont, Bool.and_eq_true, decide_eq_true_eq]; omega
              have HN := Lib.hid hnew
              clear hnew
              generalize l.getD (p + k) 0 = x at *
              go_wp2
              go_round
              case rel => exact ⟨k + 1, by omega, by omega, HN.out, by go_num⟩
              case measure => simp [intOf]; omega
        · have hk3 : k = 3 := by omega
          subst hk3
          have c1 := HC.out (p + 1) (by omega)
          obtain ⟨x0, x1⟩ := HB.out (p + 1)
          have hsec : Hid ((Utf.second c (l.getD (p + 1) 0) = true → Utf.sgn (l.drop p) = 3) ∧ (Utf.second c (l.getD (p + 1) 0) = false → Utf.sgn (l.drop p) = 0)) :=
            ⟨fun q => HF.out.1 (by omega) ⟨hlen, hall.out, q⟩, fun q => HF.out.2 (by omega) (by rintro ⟨-, -, q'⟩; rw [q] at q'; simp at q')⟩
          generalize l.getD (p + 1) 0 = d at *
          clear hall HF HC HB
          have hcase : (c = 224 ∧ d < 160) ∨ (c = 224 ∧ 160 ≤ d) ∨ (c = 237 ∧ 159 < d) ∨ (c = 237 ∧ d ≤ 159) ∨ (c ≠ 224 ∧ c ≠ 237) := by omega
          rcases hcase with ⟨g1, g2⟩ | ⟨g1, g2⟩ | ⟨g1, g2⟩ | ⟨g1, g2⟩ | ⟨g1, g2⟩
          · have hz : Utf.sgn (l.drop p) = 0 := hsec.out.2 (by simp [Utf.second]; omega)
            have HZ := Lib.hid hz
            clear hz hsec
            subst g1
            go_wp2
            go_ret
            exact ⟨ret_int' (by rw [HZ.out]; rfl), rfl⟩
          · have hz : Utf.sgn (l.drop p) = 3 := hsec.out.1 (by simp [Utf.second]; omega)
            have HZ := Lib.hid hz
            clear hz hsec
            subst g1
            go_wp2
            go_ret
            exact ⟨ret_int' (by rw [HZ.out]; rfl), rfl⟩
          · have hz : Utf.sgn (l.drop p) = 0 := hsec.out.2 (by simp [Utf.second]; omega)
            have HZ := Lib.hid hz
            clear hz hsec
            subst g1
            go_wp2
            go_ret
            exact ⟨ret_int' (by rw [HZ.out]; rfl), rfl⟩
          · have hz : Utf.sgn (l.drop p) = 3 := hsec.out.1 (by simp [Utf.second]; omega)
            have HZ := Lib.hid hz
            clear hz hsec
            subst g1
            go_wp2
            go_ret
            exact ⟨ret_int' (by rw [HZ.out]; rfl), rfl⟩
          · have hz : Utf.sgn (l.drop p) = 3 := hsec.out.1 (by simp [Utf.second]; omega)
            have HZ := Lib.hid hz
            clear hz hsec
            have b1 : (c == 224) = false := by simpa using g1
            have b2 : (c == 237) = false := by simpa using g2
            clear g1 g2
            go_wp2
            go_ret
            exact ⟨ret_int' (by rw [HZ.out]; rfl), rfl⟩
    · go_enter Try.func30, Try.ntmps30
      go_wp2
      go_ret
      exact ⟨ret_int' (by rw [HF.out.2 (by omega) (by intro h; omega)]; rfl), rfl⟩
  · obtain ⟨hr1, hr2⟩ := hr
    have hs := (HS.out _ hn).2
    have HF := Lib.hid hs
    clear hs hn
    have t1 : decide (c ≤ 127) = false := by simp; omega
    by_cases hlen : p + 4 ≤ l.length
    · have t2 : decide ((l.length : Int) < p + 4) = false := by simp; omega
      go_enter Try.func30, Try.ntmps30
      go_wp2
      go_loop [7] (fun i => ∃ k : Nat, 1 ≤ k ∧ k ≤ 4 ∧ Hid (∀ j, 1 ≤ j → j < k → Utf.cont (l.getD (p + j) 0) = true) ∧ i = .int .i64 k) (fun i => 4 - (intOf i).toNat)
      case atStart => exact ⟨1, by omega, by omega, (fun j h1 h2 => absurd h2 (by omega)), rfl⟩
      case round =>
        obtain ⟨k, hk1, hk2, hall, rfl⟩ := hrel
        by_cases hk : k < 4
        · have ck := HC.out (p + k) (by omega)
          obtain ⟨x0, x1⟩ := HB.out (p + k)
          by_cases q1 : l.getD (p + k) 0 < 128
          · have hz : Utf.sgn (l.drop p) = 0 := HF.out.2 (by omega) (by
              rintro ⟨-, q, -⟩
              have := q k hk1 hk
              simp only [Utf.cont, Bool.and_eq_true, decide_eq_true_eq] at this
              omega)
            have HZ := Lib.hid hz
            clear hz
            generalize l.getD (p + k) 0 = x at *
            go_wp2
            go_ret
            exact ⟨ret_int' (by rw [HZ.out]; rfl), rfl⟩
          · by_cases q2 : 191 < l.getD (p + k) 0
            · have hz : Utf.sgn (l.drop p) = 0 := HF.out.2 (by omega) (by
                rintro ⟨-, q, -⟩
                have := q k hk1 hk
                simp only [Utf.cont, Bool.and_eq_true, decide_eq_true_eq] at this
                omega)
              have HZ := Lib.hid hz
              clear hz
              generalize l.getD (p + k) 0 = x at *
              go_wp2
              go_ret
              exact ⟨ret_int' (by rw [HZ.out]; rfl), rfl⟩
            · have hnew : ∀ j, 1 ≤ j → j < k + 1 → Utf.cont (l.getD (p + j) 0) = true := by
                intro j j1 j2
                rcases Nat.lt_or_ge j k with h | h
                · exact hall.out j j1 h
                · have : j = k := by omega
                  subst this
                  simp only [Utf.cont, Bool.and_eq_true, decide_eq_true_eq]; omega
              have HN := Lib.hid hnew
              clear hnew
              generalize l.getD (p + k) 0 = x at *
              go_wp2
              go_round
              case rel => exact ⟨k + 1, by omega, by omega, HN.out, by go_num⟩
              case measure => simp [intOf]; omega
        · have hk3 : k = 4 := by omega
          subst hk3
          have c1 := HC.out (p + 1) (by omega)
          obtain ⟨x0, x1⟩ := HB.out (p + 1)
          have hsec : Hid ((Utf.second c (l.getD (p + 1) 0) = true → Utf.sgn (l.drop p) = 4) ∧ (Utf.second c (l.getD (p + 1) 0) = false → Utf.sgn (l.drop p) = 0)) :=
            ⟨fun q => HF.out.1 (by omega) ⟨hlen, hall.out, q⟩, fun q => HF.out.2 (by omega) (by rintro ⟨-, -, q'⟩; rw [q] at q'; simp at q')⟩
          generalize l.getD (p + 1) 0 = d at *
          clear hall HF HC HB
          have hcase : (c = 240 ∧ d < 144) ∨ (c = 240 ∧ 144 ≤ d) ∨ (c = 244 ∧ 143 < d) ∨ (c = 244 ∧ d ≤ 143) ∨ (c ≠ 240 ∧ c ≠ 244) := by omega
          rcases hcase with ⟨g1, g2⟩ | ⟨g1, g2⟩ | ⟨g1, g2⟩ | ⟨g1, g2⟩ | ⟨g1, g2⟩
          · have hz : Utf.sgn (l.drop p) = 0 := hsec.out.2 (by simp [Utf.second]; omega)
            have HZ := Lib.hid hz
            clear hz hsec
            subst g1
            go_wp2
            go_ret
            exact ⟨ret_int' (by rw [HZ.out]; rfl), rfl⟩
          · have hz : Utf.sgn (l.drop p) = 4 := hsec.out.1 (by simp [Utf.second]; omega)
            have HZ := Lib.hid hz
            clear hz hsec
            subst g1
            go_wp2
            go_ret
            exact ⟨ret_int' (by rw [HZ.out]; rfl), rfl⟩
          · have hz : Utf.sgn (l.drop p) = 0 := hsec.out.2 (by simp [Utf.second]; omega)
            have HZ := Lib.hid hz
            clear hz hsec
            subst g1
            go_wp2
            go_ret
            exact ⟨ret_int' (by rw [HZ.out]; rfl), rfl⟩
          · have hz : Utf.sgn (l.drop p) = 4 := hsec.out.1 (by simp [Utf.second]; omega)
            have HZ := Lib.hid hz
            clear hz hsec
            subst g1
            go_wp2
            go_ret
            exact ⟨ret_int' (by rw [HZ.out]; rfl), rfl⟩
          · have hz : Utf.sgn (l.drop p) = 4 := hsec.out.1 (by simp [Utf.second]; omega)
            have HZ := Lib.hid hz
            clear hz hsec
            have b1 : (c == 240) = false := by simpa using g1
            have b2 : (c == 244) = false := by simpa using g2
            clear g1 g2
            go_wp2
            go_ret
            exact ⟨ret_int' (by rw [HZ.out]; rfl), rfl⟩
    · go_enter Try.func30, Try.ntmps30
      go_wp2
      go_ret
      exact ⟨ret_int' (by rw [HF.out.2 (by omega) (by intro h; omega)]; rfl), rfl⟩
  · have hs : Utf.sgn (l.drop p) = 0 := (HS.out _ hn).1 (by omega)
    have HF := Lib.hid hs
    clear hs hn
    obtain ⟨hr1, hr2 | hr2⟩ := hr
    all_goals
      go_enter Try.func30, Try.ntmps30
      go_wp2
      go_ret
      exact ⟨ret_int' (by rw [HF.out]; rfl), rfl⟩
end Go.Proofs.Ytpgbipkcjbhkdaa
