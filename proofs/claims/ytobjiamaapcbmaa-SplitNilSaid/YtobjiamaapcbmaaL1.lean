import Derived.Test.YtobjiamaapcbmaaPu
namespace Go.Proofs.Ytobjiamaapcbmaa.Sp
open Go.RowKit Go.Proofs.YtobjiamaapcbmaaW.PrintWords Go.Proofs.YtobjiamaapcbmaaW.PrintLast Go.Proofs.YtobjiamaapcbmaaW.PrintMore Go.Proofs.Ytobjiamaapcbmaa.Sl PRef Str
set_option linter.unusedVariables false
set_option linter.unusedSimpArgs false
set_option maxHeartbeats 1000000 in
theorem splitNews_fun (A : Option Addr) (c : Nat) (l : List ByteArray) (hl : l.length * 16 ≤ 140737488355328) (hs : ∀ b ∈ l, Sm b) (hc : l.length ≤ c) :
    FunV Try.prog 3 #[.slice A l.length c] (fun w => Kd.C Kd.string w A l.length l) [] (.bool true) [] := by
  intro w S hS hR
  have H := St.start hS
  have HR := Aside0.mk hR
  have HS := Aside0.mk hs
  clear hS hR hs
  have hu22 := Try.underlying22
  go_enter Try.func3, Try.ntmps3
  go_wp2_with (first
    | ((with_reducible refine gate_dst (N := 6) rfl ?_); refine ev_lit Kd.string 9 ?hg (N := 6) ?hd (xs := ([] : List ByteArray)) (inner := []) H ?hr ?hp (by simp) ?_; (case hd => rfl); (case hg => rfl); (case hr => first | (go_simp; done) | (go_simp; rfl)); (case hp => exact Reps.none _ _); intro v1 w1 H1)
    | ((with_reducible refine gate_dst (N := 8) rfl ?_); at_builtin; refine ev_rows Kd.string flat_string rfl (.tmp 6) (.tmp 7) 22 9 _ 16 rfl Try.underlying22 info9 rfl (by decide) (by omega) v1 [] l A c rfl rfl H1 ?hc ?hl ?_; (case hc => exact HR.out _ H1.ext); (case hl => simp; omega); intro v2 w2 H2; rw [List.nil_append] at H2; obtain ⟨A2, c2, rfl, hc2, hC2⟩ := St.row_C H2; clear hC2))
  have HN := (new_fun A2 c2 l hl).call (F := [HP.row Kd.string 9 (.slice A2 l.length c2) l]) H2 (fun w' _ _ hf => row_rd hf)
  clear H H1 H2
  by_cases hn : newOk l = true
  · refine HN.mono ?_
    rintro e w3 ⟨v3, rfl, H3⟩
    rw [newPost_yes hn] at H3
    obtain ⟨g, H4⟩ := St.ex_ H3
    obtain ⟨rfl, H5⟩ := St.and_ H4
    have H6 : St w S w3 [Split g l, HP.row Kd.string 9 (.slice A2 l.length c2) l] := H5
    clear H3 H4 H5 HN
    have hl4 : l.length < 4 := by
      unfold newOk at hn
      simp at hn
      exact hn.1
    have HNK := Aside0.mk hn
    clear hn
    go_wp2_with (first
      | (go_at_call 9; refine (right_calls A c l HS.out hc _ (HR.out _ H6.ext)).mono ?_; rintro e w4 ⟨rfl, ⟨nd, rfl⟩⟩; rw [HNK.out])
      | (go_at_call 10; refine (awake_fun.call (F := [Split g l, HP.row Kd.string 9 (.slice A2 l.length c2) l]) (H6.drewN nd) (fun _ _ _ _ => trivial)).mono ?_; rintro e w5 ⟨rfl, H7⟩)
      | (go_at_call 11; refine ((size_fun g l (by omega)).call (F := [HP.row Kd.string 9 (.slice A2 l.length c2) l]) H7 (fun _ _ _ _ => trivial)).mono ?_; rintro e w6 ⟨rfl, H8⟩))
    go_ret
    exact ⟨rfl, (H8.out 0).out 0⟩
  · have hn : newOk l = false := by simpa using hn
    refine HN.mono ?_
    rintro e w3 ⟨v3, rfl, H3⟩
    rw [newPost_no hn] at H3
    obtain ⟨rfl, H6⟩ := St.pure_ H3
    clear H3 HN
    have HNK := Aside0.mk hn
    clear hn
    go_wp2_with (first
      | (go_at_call 9; refine (right_calls A c l HS.out hc _ (HR.out _ H6.ext)).mono ?_; rintro e w4 ⟨rfl, ⟨nd, rfl⟩⟩; rw [HNK.out])
      | (go_at_call 10; refine (awake_fun.call (F := [HP.row Kd.string 9 (.slice A2 l.length c2) l]) (H6.drewN nd) (fun _ _ _ _ => trivial)).mono ?_; rintro e w5 ⟨rfl, H7⟩))
    go_ret
    exact ⟨rfl, H7.out 0⟩
end Go.Proofs.Ytobjiamaapcbmaa.Sp
