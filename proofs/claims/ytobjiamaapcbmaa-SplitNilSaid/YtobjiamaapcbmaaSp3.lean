import Derived.Test.YtobjiamaapcbmaaSp2
import Derived.Test.YtobjiamaapcbmaaSl
namespace Go.Proofs.Ytobjiamaapcbmaa.Sp
open Go.RowKit Go.Proofs.YtobjiamaapcbmaaW.PrintWords Go.Proofs.YtobjiamaapcbmaaW.PrintLast Go.Proofs.YtobjiamaapcbmaaW.PrintMore Go.Proofs.Ytobjiamaapcbmaa.Sl
set_option linter.unusedVariables false
set_option linter.unusedSimpArgs false
theorem info9 : (Try.prog.info? 9).map (fun i => (i.zero, i.size, i.bytes)) = some (some (.string ⟨#[]⟩), 1, 16) := by kernel_rfl
theorem flat_string : Flat Kd.string := fun _ _ _ _ h => h
theorem clone_fun (A : Option Addr) (c : Nat) (l : List ByteArray) (hl : l.length * 16 ≤ 140737488355328) :
    Fun Try.prog 17 #[.slice A l.length c] (fun w => Kd.C Kd.string w A l.length l) [] (fun v => [HP.row Kd.string 9 v l]) := by
  intro w S hS hR
  have H := St.start hS
  have HR := Aside0.mk hR
  clear hS hR
  have hu22 := Try.underlying22
  cases A with
  | none =>
    obtain rfl : l = [] := List.eq_nil_of_length_eq_zero (by
      rcases Nat.eq_zero_or_pos l.length with h | h
      · exact h
      · obtain ⟨_, e, _⟩ := (HR.out w (Ext.refl _ _)).2.2 h
        cases e)
    have hq := fun n c' => Lib.run_eql_slice_nil (P := Try.prog) w 22 9 none n c' 0 0 Try.underlying22
    go_enter Try.func17, Try.ntmps17
    go_wp2
    go_ret
    exact ⟨_, rfl, H.nil_ _ _⟩
  | some ad =>
    have hq := fun n c' => Lib.run_eql_slice_nil (P := Try.prog) w 22 9 (some ad) n c' 0 0 Try.underlying22
    go_enter Try.func17, Try.ntmps17
    go_wp2_with (first
      | ((with_reducible refine gate_dst (N := 5) rfl ?_); refine ev_lit Kd.string 9 ?hg (N := 5) ?hd (xs := ([] : List ByteArray)) (inner := []) H ?hr ?hp (by simp) ?_; (case hd => rfl); (case hg => rfl); (case hr => first | (go_simp; done) | (go_simp; rfl)); (case hp => exact Reps.none _ _); intro v1 w1 H1)
      | ((with_reducible refine gate_dst (N := 7) rfl ?_); at_builtin; (refine ev_rows Kd.string flat_string rfl (.tmp 5) (.tmp 6) 22 9 _ 16 rfl Try.underlying22 info9 rfl (by decide) (by omega) v1 [] l (some ad) c rfl rfl H1 ?hc ?hl ?_); (case hc => exact HR.out _ H1.ext); (case hl => simp; omega); intro v2 w2 H2))
    go_ret
    exact ⟨_, rfl, H2⟩
end Go.Proofs.Ytobjiamaapcbmaa.Sp
