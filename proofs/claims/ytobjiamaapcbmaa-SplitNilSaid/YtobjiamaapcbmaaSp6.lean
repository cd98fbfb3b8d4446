import Derived.Test.YtobjiamaapcbmaaSp5
import Derived.Test.YtobjiamaapcbmaaStands
import Derived.KernelRfl
namespace Go.Proofs.Ytobjiamaapcbmaa.Sp
open Go.RowKit Go.Proofs.YtobjiamaapcbmaaW.PrintWords Go.Proofs.YtobjiamaapcbmaaW.PrintLast Go.Proofs.YtobjiamaapcbmaaW.PrintMore Go.Proofs.Ytobjiamaapcbmaa.Sl PRef Str
set_option linter.unusedVariables false
set_option linter.unusedSimpArgs false
theorem leq_s (a b : ByteArray) : leq a b = decide (cmpS a b ≤ 0) := leq_cmp _ _
theorem less_s (a b : ByteArray) : Op.bytesLess a.toList b.toList = decide (cmpS a b < 0) := bytesLess_cmp _ _
theorem awake_new : newOk [⟨#[98]⟩, ⟨#[100]⟩] = true := by
  kernel_rfl
theorem awake_parts : partsTo [⟨#[98]⟩, ⟨#[100]⟩] ⟨⟨#[97]⟩, ⟨#[99]⟩⟩ 3 = [⟨0, ⟨⟨#[97]⟩, ⟨#[98]⟩⟩⟩, ⟨1, ⟨⟨#[98]⟩, ⟨#[99]⟩⟩⟩] := by
  kernel_rfl
theorem awake_find_a : cnt ⟨#[97]⟩ [⟨#[98]⟩, ⟨#[100]⟩] = 0 := by kernel_rfl
theorem awake_find_b : cnt ⟨#[98]⟩ [⟨#[98]⟩, ⟨#[100]⟩] = 1 := by kernel_rfl
theorem awake_find_z : cnt ⟨#[122]⟩ [⟨#[98]⟩, ⟨#[100]⟩] = 2 := by kernel_rfl
theorem row_rd {α : Type} {d : Kd α} {e : TypeId} {A : Option Addr} {n c : Nat} {xs : List α} {w : World} {S : Nat → Prop} {L : List HP} (h : (all (HP.row d e (.slice A n c) xs :: L)).h w S) : d.C w A xs.length xs :=
  let ⟨S1, S2, a, _⟩ := h; (Kd.R_reads' a).2.2
theorem parts_awake (g : Nat) : Fun Try.prog 14 #[.pointer (some ⟨g, 0, none⟩), .agg #[.string ⟨#[97]⟩, .string ⟨#[99]⟩]] (fun _ => True) [Split g [⟨#[98]⟩, ⟨#[100]⟩]]
    (fun v => [HP.row k39 39 v [⟨0, ⟨⟨#[97]⟩, ⟨#[98]⟩⟩⟩, ⟨1, ⟨⟨#[98]⟩, ⟨#[99]⟩⟩⟩], Split g [⟨#[98]⟩, ⟨#[100]⟩]]) := by
  have h := parts_fun g [⟨#[98]⟩, ⟨#[100]⟩] ⟨⟨#[97]⟩, ⟨#[99]⟩⟩ (by decide)
  rw [show ([⟨#[98]⟩, ⟨#[100]⟩] : List ByteArray).length + 1 = 3 from rfl, awake_parts] at h
  exact h
set_option maxHeartbeats 1000000 in
theorem awake_fun : FunV Try.prog 10 #[] (fun _ => True) [] (.bool true) [] := by
  intro w S hS hR
  have H := St.start hS
  clear hS hR
  have hu22 := Try.underlying22
  have hu34 := Try.underlying34
  have hu39 := Try.underlying39
  go_enter Try.func10, Try.ntmps10
  go_wp2_with (first
    | ((with_reducible refine gate_dst (N := 5) rfl ?_); refine ev_lit Kd.string 9 ?hg (N := 5) ?hd (xs := [⟨#[98]⟩, ⟨#[100]⟩]) (inner := [.string ⟨#[98]⟩, .string ⟨#[100]⟩]) H ?hr ?hp (by simp) ?_; (case hd => rfl); (case hg => rfl); (case hr => first | (go_simp; done) | (go_simp; rfl)); (case hp => exact Reps.one rfl (Reps.one rfl (Reps.none _ _))); intro v1 w1 H1; obtain ⟨A1, c1, rfl, hc1, hC1⟩ := St.row_C H1)
    | (go_at_call 8; refine ((new_fun A1 c1 [⟨#[98]⟩, ⟨#[100]⟩] (by decide)).call (F := [HP.row Kd.string 9 (.slice A1 2 c1) [⟨#[98]⟩, ⟨#[100]⟩]]) H1 (fun w' _ _ hf => row_rd hf)).mono ?_; rintro e w2 ⟨v2, rfl, H2⟩; rw [newPost_yes awake_new] at H2; obtain ⟨g, H3⟩ := St.ex_ H2; obtain ⟨hv2, H4⟩ := St.and_ H3; clear H2 H3 H1 H hC1; subst hv2))
  have H5 : St w S w2 [Split g [⟨#[98]⟩, ⟨#[100]⟩]] := H4.out 1
  clear H4
  go_wp2_with ((go_at_call 14; refine ((parts_awake g).call (F := []) H5 (fun _ _ _ _ => trivial)).mono ?_; rintro e w3 ⟨v3, rfl, H6⟩; obtain ⟨A3, c3, rfl, hc3, hC3⟩ := St.row_C H6))
  have H7 : St w S w3 [Split g [⟨#[98]⟩, ⟨#[100]⟩], HP.row k39 39 (.slice A3 2 c3) [⟨0, ⟨⟨#[97]⟩, ⟨#[98]⟩⟩⟩, ⟨1, ⟨⟨#[98]⟩, ⟨#[99]⟩⟩⟩]] := H6.mv 1
  clear H6 hC3 H5
  refine ((size_fun g [⟨#[98]⟩, ⟨#[100]⟩] (by decide)).call H7 (fun _ _ _ _ => trivial)).mono ?_
  rintro e w4 ⟨rfl, H8⟩
  clear H7
  go_wp2_with fail
  refine ((find_fun g [⟨#[98]⟩, ⟨#[100]⟩] ⟨#[97]⟩ (by decide)).call H8 (fun _ _ _ _ => trivial)).mono ?_
  rintro e w5 ⟨rfl, H9⟩
  clear H8
  rw [awake_find_a]
  go_wp2_with fail
  refine ((find_fun g [⟨#[98]⟩, ⟨#[100]⟩] ⟨#[98]⟩ (by decide)).call H9 (fun _ _ _ _ => trivial)).mono ?_
  rintro e w6 ⟨rfl, H10⟩
  clear H9
  rw [awake_find_b]
  go_wp2_with fail
  refine ((find_fun g [⟨#[98]⟩, ⟨#[100]⟩] ⟨#[122]⟩ (by decide)).call H10 (fun _ _ _ _ => trivial)).mono ?_
  rintro e w7 ⟨rfl, H11⟩
  clear H10
  rw [awake_find_z]
  obtain ⟨ad, e', h0, h1, h2⟩ := at_T39 (St.row_reads (H11.mv 1)).2.2 1 (by decide) (by decide)
  subst e'
  have h0' : w7.cell? (ad.add 3) = some (.int .i64 1) := h0
  have h1' : w7.cell? ⟨(ad.add 3).block, (ad.add 3).off + 1, none⟩ = some (.string ⟨#[98]⟩) := h1
  have h2' : w7.cell? ⟨(ad.add 3).block, (ad.add 3).off + 2, none⟩ = some (.string ⟨#[99]⟩) := h2
  clear h0 h1 h2
  have e3 : ad.add 3 = ⟨ad.block, ad.off + 3, none⟩ := by simp [Addr.add]
  rw [e3] at h0' h1' h2'
  clear e3
  go_wp2
  go_ret
  exact ⟨rfl, H11.out 0 |>.out 0⟩
end Go.Proofs.Ytobjiamaapcbmaa.Sp
