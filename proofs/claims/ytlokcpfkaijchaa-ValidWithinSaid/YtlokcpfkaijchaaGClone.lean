/- Contract of slices.Clone of frames, of a row that is not empty. -/
import Derived.Test.YtlokcpfkaijchaaGLib
namespace Go.Proofs.Ytlokcpfkaijchaa.PA
open Go.RowKit Go.Proofs.YtlokcpfkaijchaaW.PrintWords Go.Proofs.YtlokcpfkaijchaaW.PrintLast Go.Proofs.YtlokcpfkaijchaaW.PrintMore
set_option linter.unusedVariables false
set_option linter.unusedSimpArgs false
set_option maxHeartbeats 4000000 in
set_option maxRecDepth 100000 in
theorem clone_frames (ad : Addr) (c : Nat) (l : List S40) (w : World) (hr : Kd.C k40 w (some ad) l.length l) (hl : l.length ≤ 1000000) :
    Calls Try.prog 32 #[.slice (some ad) l.length c] w fun e w' => ∃ v', e = .returned v' ∧ Kd.R k40 40 w' w.heap.size (fun _ => True) v' l ∧ Below w.heap.size w w' := by
  have HR := Lib.hid hr
  have HL := Lib.hid hl
  clear hr hl
  have q22 : ∀ (w : World) (a : Option Addr) (n c n' c' : Nat), (binOp .eql 33 (.slice a n c) (.slice none n' c')).run Try.prog w = .ok (.bool a.isNone) w := fun w a n c n' c' => Lib.run_eql_slice_nil w _ _ a n c n' c' Try.underlying33
  go_enter Try.func32, Try.ntmps32
  go_wp2_with (first | ((with_reducible refine gate_dst (N := 5) rfl ?_); refine Kd.R_lit k40 w.heap.size 40 ?hg (N := 5) ?hd (xs := ([] : List S40)) (inner := []) (ok := fun _ => True) (okp := fun _ => True) ?hr ?hp (fun _ hk => hk) trivial (Below.refl _ _) (Nat.le_refl _) (by simp) ?_; (case hd => rfl); (case hg => rfl); (case hr => first | (go_simp; done) | (go_simp; rfl)); (case hp => exact Reps.none _ _); intro v2 w3 ho4 hb hg_ hnew_; have HO := Aside0.mk ho4; have BB := Aside0.mk hb; clear ho4 hb hg_ hnew_) | (at_builtin; refine Kd.R_append_rows k40 (w0 := w) (Rr := fun x cs => Kd.K k40 w3 x cs) w.heap.size rfl (.tmp 5) (.tmp 6) 33 40 _ 104 rfl Try.underlying33 info40 rfl (by decide) (by decide) v2 [] l (some ad) l.length c (fun _ => True) (fun _ => False) rfl rfl HO.out (Kd.C_below HR.out BB.out) (fun x cs hk => (by obtain rfl := k40_open hk; exact k40_mkM _ _ _ x)) (fun _ hk => hk.elim) (fun _ _ => trivial) BB.out BB.out.size (by have := HL.out; simp only [List.length_nil]; omega) ?_; intro v1 w5 HV3 BB3 hg3 _; have HV4 := Aside0.mk HV3; have BB4 := Aside0.mk BB3; clear HV3 BB3 hg3))
  go_ret
  exact ⟨_, rfl, by have := HV4.out; simpa using this, BB4.out⟩
end Go.Proofs.Ytlokcpfkaijchaa.PA
