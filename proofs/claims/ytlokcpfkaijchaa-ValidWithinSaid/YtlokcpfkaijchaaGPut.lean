/- Contract of varint.Put: a loop by goto. -/
import Derived.Test.YtlokcpfkaijchaaGConv
import Derived.ScopeJumps
namespace Go.Proofs.Ytlokcpfkaijchaa.PA
open Go.RowKit Go.Proofs.YtlokcpfkaijchaaW.PrintWords Go.Proofs.YtlokcpfkaijchaaW.PrintLast Go.Proofs.YtlokcpfkaijchaaW.PrintMore
set_option linter.unusedVariables false
set_option linter.unusedSimpArgs false
/-- The bytes of a number, seven bits each, the lowest first. -/
def vput : Nat → Nat → List Int
  | 0, n => [(n : Int)]
  | k + 1, n => if 128 ≤ n then ((n % 128 + 128 : Nat) : Int) :: vput k (n / 128) else [(n : Int)]
def varint_Put.f (a0 : Int) : Option (List Int) := if isU64 a0 = true then some (vput 10 a0.toNat) else none
set_option maxRecDepth 100000 in
theorem or128 (m : Nat) : bits BinOp.or IntKind.u8 ((m : Int) % 256) 128 = ((m % 128 + 128 : Nat) : Int) := by
  have key : ∀ x : Fin 256, bits BinOp.or IntKind.u8 (x.val : Int) 128 = ((x.val % 128 + 128 : Nat) : Int) := by decide
  have h := key ⟨m % 256, by omega⟩
  have e : ((m : Int) % 256) = ((m % 256 : Nat) : Int) := by omega
  rw [e, h]
  simp only
  omega
theorem vput_big {k m : Nat} (h : 128 ≤ m) : vput (k + 1) m = ((m % 128 + 128 : Nat) : Int) :: vput k (m / 128) := by rw [vput, if_pos h]
theorem vput_small {k m : Nat} (h : ¬ 128 ≤ m) : vput k m = [(m : Int)] := by
  cases k with
  | zero => rfl
  | succ k => rw [vput, if_neg h]
theorem info_u8z : (Try.prog.info? 5).map (fun i => (i.zero, i.size, i.bytes)) = some (some (.int .u8 0), 1, 1) := by kernel_rfl
set_option maxHeartbeats 4000000 in
set_option maxRecDepth 100000 in
theorem varint_put (n : Nat) (hn : n < 18446744073709551616) (w : World) :
    Calls Try.prog 34 #[.int .u64 n] w fun e w' => ∃ v0_ : Value, e = .returned (v0_) ∧ Kd.R (Kd.int .u8) 5 w' w.heap.size (fun _ => True) v0_ (vput 10 n) ∧ Below w.heap.size w w' := by
  go_enter Try.func34, Try.ntmps34
  go_wp2
  refine wp_scope_jumps 0 (fun a' w' => ∃ (m k : Nat) (v : Value) (l : List Int) (u2 u4 u5 u6 u7 u8 u9 u10 u11 u12 u13 u14 u15 u16 u17 u18 : Value), a' = { tmps := #[.int .u64 m, undef, u2, v, u4, u5, u6, u7, u8, u9, u10, u11, u12, u13, u14, u15, u16, u17, u18], defers := [] } ∧ m < 128 ^ k ∧ k ≤ 10 ∧ l ++ vput k m = vput 10 n ∧ l.length + k ≤ 10 ∧ Kd.R (Kd.int .u8) 5 w' w.heap.size (fun _ => True) v l ∧ Below w.heap.size w w' ∧ m < 18446744073709551616) (fun a' _ => match a'.tmps.getD 0 undef with | .int _ q => q.toNat | _ => 0) rfl ?_ ?_
  · go_wp2
    go_step3
    have HV0 : Kd.R (Kd.int .u8) 5 w w.heap.size (fun _ => True) (.slice none 0 0) ([] : List Int) := Kd.R_nil _ _ _ _ _
    have BB0 := Below.refl w.heap.size w
    obtain ⟨v, hv⟩ : ∃ v, v = Value.slice none 0 0 := ⟨_, rfl⟩
    obtain ⟨m, hmn⟩ : ∃ m, m = n := ⟨_, rfl⟩
    obtain ⟨l, hl0⟩ : ∃ l : List Int, l = [] := ⟨_, rfl⟩
    obtain ⟨k, hk0⟩ : ∃ k, k = 10 := ⟨_, rfl⟩
    rw [← hv, ← hl0] at HV0
    have hm : m < 128 ^ k := by rw [hmn, hk0]; omega
    have hk : k ≤ 10 := by omega
    have hl : l ++ vput k m = vput 10 n := by rw [hl0, hk0, hmn]; rfl
    have hlen : l.length + k ≤ 10 := by rw [hl0, hk0]; simp
    have h64 : m < 18446744073709551616 := by omega
    have hN : Value.int .u64 (n : Int) = .int .u64 (m : Int) := by rw [hmn]
    rw [hN, ← hv]
    clear hmn hl0 hk0 hv hN
    have HV := Aside0.mk HV0
    have BB := Aside0.mk BB0
    have HLN := Lib.hid hlen
    clear HV0 BB0
    by_cases hb : 128 ≤ m
    · obtain ⟨k, rfl⟩ : ∃ j, k = j + 1 := ⟨k - 1, by
        cases k with
        | zero => simp at hm; omega
        | succ j => rfl⟩
      have d1 : decide ((128 : Int) ≤ m) = true := by simp; omega
      rw [vput_big hb] at hl
      have hm2 : m / 128 < 128 ^ k := by rw [Nat.div_lt_iff_lt_mul (by decide), ← Nat.pow_succ]; exact hm
      have HX := Lib.hid (And.intro hm2 hl)
      clear hm hl hm2
      have e1 := or128 m
      go_wp2_with (at_builtin; refine Kd.R_append (Kd.int .u8) (w0 := w) w.heap.size rfl (.tmp 6) (.tmp 10) 26 5 (.int .u8 0) 1 rfl Try.underlying26 info_u8z rfl (by decide) (by decide) v l ((m % 128 + 128 : Nat) : Int) [.int .u8 ((m % 128 + 128 : Nat) : Int)] (fun _ => True) (fun _ => False) rfl rfl rfl (fun _ hk => hk.elim) (fun _ _ => trivial) HV.out BB.out BB.out.size (by have := HLN.out; omega) ?_; intro v1 w3 HV3 BB3 hg3 _; have HV4 := Aside0.mk HV3; have BB4 := Aside0.mk BB3; clear HV3 BB3 hg3)
      have e5 : (m : Int) / 128 = ((m / 128 : Nat) : Int) := by omega
      rw [e5]
      go_step3
      refine ⟨rfl, ⟨m / 128, k, v1, l ++ [((m % 128 + 128 : Nat) : Int)], _, _, _, _, _, _, _, _, _, _, _, _, _, _, _, _, rfl, HX.out.1, by omega, by rw [List.append_assoc]; exact HX.out.2, by have := HLN.out; rw [List.length_append, List.length_singleton]; omega, HV4.out, BB4.out, by omega⟩⟩
    · have d1 : decide ((128 : Int) ≤ m) = false := by simp; omega
      have hs : vput k m = [(m : Int)] := vput_small hb
      rw [hs] at hl
      have HX := Lib.hid hl
      have e1 : (m : Int) % 256 = m := by omega
      clear hl hm hs
      go_wp2_with (at_builtin; refine Kd.R_append (Kd.int .u8) (w0 := w) w.heap.size rfl (.tmp 14) (.tmp 17) 26 5 (.int .u8 0) 1 rfl Try.underlying26 info_u8z rfl (by decide) (by decide) v l (m : Int) [.int .u8 (m : Int)] (fun _ => True) (fun _ => False) rfl rfl rfl (fun _ hk => hk.elim) (fun _ _ => trivial) HV.out BB.out BB.out.size (by have := HLN.out; omega) ?_; intro v1 w3 HV3 BB3 hg3 _; have HV4 := Aside0.mk HV3; have BB4 := Aside0.mk BB3; clear HV3 BB3 hg3)
      simp only [Exit.jump]
      go_ret
      exact ⟨_, rfl, by rw [← HX.out]; exact HV4.out, BB4.out⟩
  · intro a' w' hj
    obtain ⟨m, k, v, l, u2, u4, u5, u6, u7, u8, u9, u10, u11, u12, u13, u14, u15, u16, u17, u18, rfl, hm, hk, hl, hlen, HV0, BB0, h64⟩ := hj
    have HV := Aside0.mk HV0
    have BB := Aside0.mk BB0
    have HLN := Lib.hid hlen
    clear HV0 BB0
    by_cases hb : 128 ≤ m
    · obtain ⟨k, rfl⟩ : ∃ j, k = j + 1 := ⟨k - 1, by
        cases k with
        | zero => simp at hm; omega
        | succ j => rfl⟩
      have d1 : decide ((128 : Int) ≤ m) = true := by simp; omega
      rw [vput_big hb] at hl
      have hm2 : m / 128 < 128 ^ k := by rw [Nat.div_lt_iff_lt_mul (by decide), ← Nat.pow_succ]; exact hm
      have HX := Lib.hid (And.intro hm2 hl)
      clear hm hl hm2
      have e1 := or128 m
      go_wp2_with (at_builtin; refine Kd.R_append (Kd.int .u8) (w0 := w) w.heap.size rfl (.tmp 6) (.tmp 10) 26 5 (.int .u8 0) 1 rfl Try.underlying26 info_u8z rfl (by decide) (by decide) v l ((m % 128 + 128 : Nat) : Int) [.int .u8 ((m % 128 + 128 : Nat) : Int)] (fun _ => True) (fun _ => False) rfl rfl rfl (fun _ hk => hk.elim) (fun _ _ => trivial) HV.out BB.out BB.out.size (by have := HLN.out; omega) ?_; intro v1 w3 HV3 BB3 hg3 _; have HV4 := Aside0.mk HV3; have BB4 := Aside0.mk BB3; clear HV3 BB3 hg3)
      have e5 : (m : Int) / 128 = ((m / 128 : Nat) : Int) := by omega
      rw [e5]
      go_step3
      refine ⟨rfl, ⟨m / 128, k, v1, l ++ [((m % 128 + 128 : Nat) : Int)], _, _, _, _, _, _, _, _, _, _, _, _, _, _, _, _, rfl, HX.out.1, by omega, by rw [List.append_assoc]; exact HX.out.2, by have := HLN.out; rw [List.length_append, List.length_singleton]; omega, HV4.out, BB4.out, by omega⟩, ?_⟩
      show (((m / 128 : Nat) : Int)).toNat < ((m : Nat) : Int).toNat
      omega
    · have d1 : decide ((128 : Int) ≤ m) = false := by simp; omega
      have hs : vput k m = [(m : Int)] := vput_small hb
      rw [hs] at hl
      have HX := Lib.hid hl
      have e1 : (m : Int) % 256 = m := by omega
      clear hl hm hs
      go_wp2_with (at_builtin; refine Kd.R_append (Kd.int .u8) (w0 := w) w.heap.size rfl (.tmp 14) (.tmp 17) 26 5 (.int .u8 0) 1 rfl Try.underlying26 info_u8z rfl (by decide) (by decide) v l (m : Int) [.int .u8 (m : Int)] (fun _ => True) (fun _ => False) rfl rfl rfl (fun _ hk => hk.elim) (fun _ _ => trivial) HV.out BB.out BB.out.size (by have := HLN.out; omega) ?_; intro v1 w3 HV3 BB3 hg3 _; have HV4 := Aside0.mk HV3; have BB4 := Aside0.mk BB3; clear HV3 BB3 hg3)
      simp only [Exit.jump]
      go_ret
      exact ⟨_, rfl, by rw [← HX.out]; exact HV4.out, BB4.out⟩
theorem varint_Put.calls (a0 : Int) (r : List Int) (w : World) (h : varint_Put.f a0 = some r) :
    Calls Try.prog 34 #[.int .u64 a0] w fun e w' => ∃ v0_ : Value, e = .returned (v0_) ∧ Kd.R (Kd.int .u8) 5 w' w.heap.size (fun _ => True) v0_ r ∧ Below w.heap.size w w' := by
  unfold varint_Put.f at h
  split at h
  · rename_i hu
    obtain ⟨h0, h1⟩ : 0 ≤ a0 ∧ a0 < 18446744073709551616 := by simpa [isU64] using hu
    obtain rfl := Option.some.inj h
    have h2 := varint_put a0.toNat (by omega) w
    rw [Int.toNat_of_nonneg h0] at h2
    exact h2
  · cases h
end Go.Proofs.Ytlokcpfkaijchaa.PA
