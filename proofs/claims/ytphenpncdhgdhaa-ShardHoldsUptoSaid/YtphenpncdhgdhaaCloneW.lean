/- version.New, slices.Clone at rows and at versions: walked. -/
import Derived.Test.YtphenpncdhgdhaaPutW
namespace Go.Proofs.Ytphenpncdhgdhaa.Ver
open Go.RowKit Go.Proofs.YtphenpncdhgdhaaW.PrintWords Go.Proofs.YtphenpncdhgdhaaW.PrintLast Go.Proofs.YtphenpncdhgdhaaW.PrintMore Go.Proofs.Ytphenpncdhgdhaa.Sl Go.Proofs.Ytphenpncdhgdhaa.Str
set_option linter.unusedVariables false
set_option linter.unusedSimpArgs false
theorem new_fun : Fun Try.prog 28 #[] (fun _ => True) [] (fun r => [HP.ex fun g : Nat => HP.and (r = .pointer (some ⟨g, 0, none⟩)) (storeH g (.slice none 0 0) [] [])]) := by
  intro w S hS hR
  have HS := St.start hS
  clear hS hR
  have hu62 := Try.underlying124
  go_enter Try.func28, Try.ntmps28
  go_wp2_with ((with_reducible refine gate_dst (N := 2) rfl ?_); refine ev_box ?hg (N := 2) ?hd (cs := [.slice none 0 0]) (t := 124) HS ?hr ?_; (case hd => rfl); (case hg => rfl); (case hr => first | (go_simp; done) | (go_simp; rfl)); intro gb w1 HS_ hg_; clear HS; have HS := HS_; clear HS_)
  go_ret
  refine ⟨_, rfl, St.ex_in gb (St.and_in rfl (storeH_shut ?_))⟩
  have h1 := (HS.idle.mv 1).mv 0
  have h2 : St w S w1 (HP.row (raw 2) 86 (.slice none 0 0) (rowsC [] []) :: HP.obj gb 124 [.slice none 0 0] :: []) := HS.nil_ (raw 2) 86
  have h3 : St w S w1 (Sl.all (inner [] []) :: HP.row (raw 2) 86 (.slice none 0 0) (rowsC [] []) :: HP.obj gb 124 [.slice none 0 0] :: []) := h2.idle
  exact (h3.mv 1).mv 2
theorem row_form2 {w0 W : World} {S0 : Nat → Prop} {F : List HP} {α : Type} {d : Kd α} {e : TypeId} {v : Value} {xs : List α} (h : St w0 S0 W (HP.row d e v xs :: F)) : (v = .slice none 0 0 ∧ xs = []) ∨ ∃ g cap, v = .slice (some ⟨g, 0, none⟩) xs.length cap ∧ xs.length ≤ cap := by
  obtain ⟨ext, S, ⟨S1, S2, a, b⟩, s⟩ := h
  obtain ⟨h0, inner, ⟨h1, h2⟩, hr⟩ := a
  rcases h2 with ⟨h2, h3⟩ | ⟨g', cap', cur, h2, _, hh, hle, hm, hsz, ht⟩
  · exact .inl ⟨h2, List.eq_nil_of_length_eq_zero h3⟩
  · exact .inr ⟨g', cap', h2, hle⟩
set_option maxHeartbeats 2000000 in
set_option maxRecDepth 10000 in
theorem cloneV_fun (v : Value) (xs : List Vn) (hl : xs.length * 32 ≤ 140737488355328) :
    Fun Try.prog 67 #[v] (fun _ => True) [HP.row kVn 131 v xs] (fun r => [HP.row kVn 131 r xs, HP.row kVn 131 v xs]) := by
  intro w S hS hR
  have HS := St.start hS
  clear hS hR
  have hu51 := Try.underlying84
  have hq := fun (w : World) (A : Option Addr) (n c n' c' : Nat) => Lib.run_eql_slice_nil (P := Try.prog) w 84 131 A n c n' c' Try.underlying84
  rcases row_form2 HS with ⟨rfl, rfl⟩ | ⟨g, c, rfl, hc⟩
  · go_enter Try.func67, Try.ntmps67
    go_wp2
    go_ret
    exact ⟨_, rfl, HS.nil_ _ _⟩
  · go_enter Try.func67, Try.ntmps67
    go_wp2_with (first
      | ((with_reducible refine gate_dst (N := 5) rfl ?_); refine ev_lit kVn 131 ?hg (N := 5) ?hd (xs := ([] : List Vn)) (inner := []) HS ?hr ?hp (by decide) ?_; (case hd => rfl); (case hg => rfl); (case hr => first | (go_simp; done) | (go_simp; rfl)); (case hp => exact Reps.none _ _); intro v1 w1 HS_; clear HS; have HS := HS_; clear HS_)
      | ((with_reducible refine gate_dst (N := 7) rfl ?_); at_builtin; refine ev_rows kVn flatVn rfl (.tmp 5) (.tmp 6) 84 131 _ 32 rfl Try.underlying84 infoVn rfl (by decide) (by omega) v1 [] xs _ c rfl rfl HS ?hc ?hl ?_; (case hc => exact (St.row_reads (HS.mv 1)).2.2); (case hl => simpa using hl); intro v2 w2 HS_; clear HS; have HS := HS_; clear HS_))
    go_ret
    exact ⟨_, rfl, HS⟩
set_option maxHeartbeats 2000000 in
set_option maxRecDepth 10000 in
theorem cloneR_fun (v : Value) (xs : List (List Value)) (hl : xs.length * 40 ≤ 140737488355328) :
    Fun Try.prog 66 #[v] (fun _ => True) [HP.row kR 86 v xs] (fun r => [HP.row kR 86 r xs, HP.row kR 86 v xs]) := by
  intro w S hS hR
  have HS := St.start hS
  clear hS hR
  have hu48 := Try.underlying74
  have hq := fun (w : World) (A : Option Addr) (n c n' c' : Nat) => Lib.run_eql_slice_nil (P := Try.prog) w 74 86 A n c n' c' Try.underlying74
  rcases row_form2 HS with ⟨rfl, rfl⟩ | ⟨g, c, rfl, hc⟩
  · go_enter Try.func66, Try.ntmps66
    go_wp2
    go_ret
    exact ⟨_, rfl, HS.nil_ _ _⟩
  · go_enter Try.func66, Try.ntmps66
    go_wp2_with (first
      | ((with_reducible refine gate_dst (N := 5) rfl ?_); refine ev_lit kR 86 ?hg (N := 5) ?hd (xs := ([] : List (List Value))) (inner := []) HS ?hr ?hp (by decide) ?_; (case hd => rfl); (case hg => rfl); (case hr => first | (go_simp; done) | (go_simp; rfl)); (case hp => exact Reps.none _ _); intro v1 w1 HS_; clear HS; have HS := HS_; clear HS_)
      | ((with_reducible refine gate_dst (N := 7) rfl ?_); at_builtin; refine ev_rows kR flatR rfl (.tmp 5) (.tmp 6) 74 86 _ 40 rfl Try.underlying74 infoR rfl (by decide) (by omega) v1 [] xs _ c rfl rfl HS ?hc ?hl ?_; (case hc => exact (St.row_reads (HS.mv 1)).2.2); (case hl => simpa using hl); intro v2 w2 HS_; clear HS; have HS := HS_; clear HS_))
    go_ret
    exact ⟨_, rfl, HS⟩
end Go.Proofs.Ytphenpncdhgdhaa.Ver
