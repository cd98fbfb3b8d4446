import Derived.Test.YtobjiamaapcbmaaPu
namespace Go.Proofs.Ytobjiamaapcbmaa.Sp
open Go.RowKit Go.Proofs.YtobjiamaapcbmaaW.PrintWords Go.Proofs.YtobjiamaapcbmaaW.PrintLast Go.Proofs.YtobjiamaapcbmaaW.PrintMore Go.Proofs.Ytobjiamaapcbmaa.Sl PRef Str
set_option linter.unusedVariables false
set_option linter.unusedSimpArgs false
theorem parts_nil (p : S34) : FunV Try.prog 14 #[.pointer none, .agg #[.string p.f0, .string p.f1]] (fun _ => True) [] (.slice none 0 0) [] := by
  intro w S hS hR
  have H := (St.start hS).alloc (.cells #[.string p.f0, .string p.f1] 34)
  have hu34 := Try.underlying34
  go_enter Try.func14, Try.ntmps14
  go_wp2_with ((go_at_call 11; refine (size_nil _).mono ?_; rintro e w' ⟨rfl, rfl⟩))
  go_loopw [5, 10] (fun v5 i w' => i = .int .i64 0 ∧ v5 = .slice none 0 0 ∧ St w S w' []) (fun _ i _ => 0)
  case atStart => exact ⟨rfl, rfl, H.out 0⟩
  case round =>
    obtain ⟨rfl, rfl, Hr⟩ := hrel
    go_wp2
    go_ret
    exact ⟨rfl, Hr⟩
set_option maxHeartbeats 1000000 in
theorem splitNil_fun (key : ByteArray) (p : S34) : FunV Try.prog 7 #[.string key, .agg #[.string p.f0, .string p.f1]] (fun _ => True) [] (.bool true) [] := by
  intro w S hS hR
  have H := St.start hS
  clear hS hR
  have hu34 := Try.underlying34
  go_enter Try.func7, Try.ntmps7
  go_wp2_with ((with_reducible refine gate_dst (N := 3) rfl ?_); refine ev_box ?hg (N := 3) ?hd (cs := [.string p.f0, .string p.f1]) (t := 34) H ?hr ?_; (case hd => rfl); (case hg => rfl); (case hr => first | (go_simp; done) | (go_simp; rfl)); intro gp w1 H1 hgp)
  refine (awake_fun.call (F := [HP.obj gp 34 [.string p.f0, .string p.f1]]) H1 (fun _ _ _ _ => trivial)).mono ?_
  rintro e w2 ⟨rfl, H2⟩
  go_wp2_with fail
  refine (find_nil _ _).mono ?_
  rintro e w' ⟨rfl, rfl⟩
  have h0 : w'.cell? ⟨gp, 0, none⟩ = some (.string p.f0) := H2.cell 0
  have h1 : w'.cell? ⟨gp, 1, none⟩ = some (.string p.f1) := H2.cell 1
  go_wp2_with (first
    | (go_at_call 14; refine ((parts_nil p).call (F := [HP.obj gp 34 [.string p.f0, .string p.f1]]) H2 (fun _ _ _ _ => trivial)).mono ?_; rintro e w3 ⟨rfl, H3⟩)
    | (go_at_call 11; refine (size_nil _).mono ?_; rintro e w4 ⟨rfl, rfl⟩))
  go_ret
  exact ⟨rfl, H3.out 0⟩
end Go.Proofs.Ytobjiamaapcbmaa.Sp
