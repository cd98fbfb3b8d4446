/- The law of the plays: walked; of what is handed over. -/
import Derived.Test.YtiobcknobbimoaaAgY
namespace Go.Proofs.Ytiobcknobbimoaa.Ag
open Go.RowKit Go.Proofs.YtiobcknobbimoaaW.PrintWords Go.Proofs.YtiobcknobbimoaaW.PrintLast Go.Proofs.YtiobcknobbimoaaW.PrintMore Go.Proofs.Ytiobcknobbimoaa.Sl Go.Proofs.Ytiobcknobbimoaa.Row
set_option linter.unusedVariables false
set_option linter.unusedSimpArgs false
structure OpA where
  kind : Int
  what : Int
  due : Int
def kOpA : Kd OpA := Kd.iso (Kd.pair (Kd.int .i64) (Kd.pair (Kd.int .i64) (Kd.int .i64))) (fun x : OpA => (x.kind, x.what, x.due))
theorem kOpA_open {w : World} {x : OpA} {cs : List Value} (h : kOpA.K w x cs) : cs = [.int .i64 x.kind, .int .i64 x.what, .int .i64 x.due] := by
  obtain ⟨_, _, rfl, rfl, ⟨_, _, rfl, rfl, rfl⟩⟩ := h
  exact rfl
theorem at_OpA {w : World} {A : Option Addr} {n : Nat} {xs : List OpA} (h : Kd.C kOpA w A n xs) (i : Nat) (hi : i < xs.length) : ∃ ad, A = some ad ∧ w.cell? (ad.add (i * 3)) = some (.int .i64 xs[i].kind) ∧ w.cell? ⟨(ad.add (i * 3)).block, (ad.add (i * 3)).off + 1, none⟩ = some (.int .i64 xs[i].what) ∧
    w.cell? ⟨(ad.add (i * 3)).block, (ad.add (i * 3)).off + 2, none⟩ = some (.int .i64 xs[i].due) := by
  obtain ⟨ad, e, hc⟩ := h.2.2 (by have := h.1; omega)
  obtain ⟨c, _, hK, hc0⟩ := hc i xs[i] (List.getElem?_eq_getElem hi)
  have hc : ∀ j u, c[j]? = some u → w.cell? (ad.add (i * 3 + j)) = some u := hc0
  obtain rfl := kOpA_open hK
  exact ⟨ad, e, hc 0 _ rfl, by rw [← add_field _ _ 1 (by omega)]; exact hc 1 _ rfl, by rw [← add_field _ _ 2 (by omega)]; exact hc 2 _ rfl⟩
def BOpA (x : OpA) : Prop := (Lit.int .i64 x.kind).wf = true ∧ (Lit.int .i64 x.what).wf = true ∧ (Lit.int .i64 x.due).wf = true
theorem openOpA : Opens Try.prog 31 kOpA BOpA := opens_iso (fun x : Int × Int × Int => (⟨x.1, x.2.1, x.2.2⟩ : OpA)) (fun _ => rfl)
  (opens_struct Try.underlying31 (by kernel_rfl) (fields_cons rfl (by kernel_rfl) (opens_int Try.underlying3) (fields_cons rfl (by kernel_rfl) (opens_int Try.underlying3) (fields_one rfl (by kernel_rfl) (opens_int Try.underlying3)))))
def BOpAL (l : List OpA) : Prop := l.length * Try.prog.bytesOf 31 ≤ 140737488351232 ∧ ∀ x ∈ l, BOpA x
theorem openOpAL : Opens Try.prog 22 (Kd.slice 31 kOpA) BOpAL := opens_slice Try.underlying22 (by kernel_rfl) openOpA
set_option maxHeartbeats 8000000 in
set_option maxRecDepth 20000 in
theorem agendaPlays_fun (A1 : Option Addr) (c1 : Nat) (script : List OpA) (hB : BOpAL script) (hc1 : script.length ≤ c1) :
    FunV Try.prog 3 #[.slice A1 script.length c1] (fun w => Kd.C kOpA w A1 script.length script) [] (.bool true) [] := by
  intro w S hS_ hR
  have HS := St.start hS_
  have HR := Aside0.mk hR
  clear hS_ hR hB
  have hu31 := Try.underlying31
  have hu22 := Try.underlying22
  have hu29 := Try.underlying29
  go_enter Try.func3, Try.ntmps3
  go_wp2_with fail
  refine (awake_fun.call (F := []) HS (fun _ _ _ _ => trivial)).mono ?_
  rintro e_ w2 ⟨rfl, HS_⟩
  clear HS
  have HS : St w S w2 [] := HS_
  clear HS_
  rcases Nat.lt_or_ge 400 script.length with hl1 | hl1
  · have hd1 : decide ((script.length : Int) > 400) = true := decide_eq_true (by omega)
    go_wp2_with fail
    refine (awake_fun.call (F := []) HS (fun _ _ _ _ => trivial)).mono ?_
    rintro e_ w3 ⟨rfl, HS_⟩
    clear HS
    go_wp2
    go_ret
    exact ⟨rfl, HS_⟩
  have hd1 : decide ((script.length : Int) > 400) = false := decide_eq_false (by omega)
  go_wp2_with fail
  refine (newS.call (F := []) HS (fun _ _ _ _ => trivial)).mono ?_
  rintro e_ w3 ⟨r_, rfl, HS_⟩
  clear HS
  obtain ⟨ga, HS2⟩ := St.ex_ HS_
  obtain ⟨hr_, HS3⟩ := St.and_ HS2
  subst hr_
  have HS : St w S w3 [agS ga [] 0] := HS3
  clear HS_ HS2 HS3 hd1
  go_wp2_with ((with_reducible refine gate_dst (N := 17) rfl ?_); refine ev_box ?hg (N := 17) ?hd (cs := [.slice none 0 0]) (t := 29) HS ?hr ?_; (case hd => rfl); (case hg => rfl); (case hr => first | (go_simp; done) | (go_simp; rfl)); intro g w4 HS_ hg_; clear HS; have HS := HS_; clear HS_)
  have H1 : St w S w4 [docA g [], agS ga [] 0] := St.ex_in (.slice none 0 0) (refH_shut ((HS.nil_ kTh 63).mv 1))
  have HS_ : St w S w4 [agS ga [] 0, docA g []] := H1.mv 1
  clear HS H1
  have HS := HS_
  clear HS_
  go_loopw [20] (fun v20 w' => ∃ (j : Nat) (L : List Th) (tn : Nat), j ≤ script.length ∧ v20 = .int .i64 j ∧ tn ≤ j ∧ L.length ≤ j ∧ St w S w' [agS ga L tn, docA g L]) (fun v20 _ => script.length - (intOf v20).toNat)
  case atStart => exact ⟨0, [], 0, Nat.zero_le _, rfl, Nat.le_refl _, Nat.le_refl _, HS⟩
  case round =>
    clear HS
    obtain ⟨j, L, tn, hj, rfl, htn, hLl, HS⟩ := hrel
    by_cases hlt : j < script.length
    · have hltI : (j : Int) < (script.length : Int) := by omega
      have hj0 : (0 : Int) ≤ (j : Int) := by omega
      have hjd : decide ((j : Int) < (script.length : Int)) = true := decide_eq_true hltI
      obtain ⟨ad, rfl, i0, i1, i2⟩ := at_OpA (HR.out wr HS.ext) j hlt
      obtain ⟨x, hx⟩ : ∃ x, script[j] = x := ⟨_, rfl⟩
      rw [hx] at i0 i1 i2
      clear hx
      go_wp2_with (first
        | ((with_reducible refine gate_dst (N := 6) rfl ?_); refine ev_box ?hg (N := 6) ?hd (cs := [.int .i64 0, .int .i64 0, .int .i64 0]) (t := 31) HS ?hr ?_; (case hd => rfl); (case hg => rfl); (case hr => first | (go_simp; done) | (go_simp; rfl)); intro ob w5 HS_ hg_ob; clear HS; have HS := HS_; clear HS_; clear i0 i1 i2)
        | ((with_reducible refine gate_ (.store 31 (.tmp 6) (.tmp 23)) rfl ?_); refine ev_store rfl rfl 31 (.tmp 6) (.tmp 23) rfl HS rfl rfl (seg := [.int .i64 x.kind, .int .i64 x.what, .int .i64 x.due]) rfl ?ht rfl ?hf ?_; (case ht => kernel_rfl); (case hf => first | (simp; done) | (simp [splice]; done)); intro w6 HS_; clear HS; have HS : St w S w6 [HP.obj ob 31 [.int .i64 x.kind, .int .i64 x.what, .int .i64 x.due], agS ga L tn, docA g L] := HS_; clear HS_; have q0 : w6.cell? ⟨ob, 0, none⟩ = some (.int .i64 x.kind) := HS.cell 0; have q1 : w6.cell? ⟨ob, 1, none⟩ = some (.int .i64 x.what) := HS.cell 1; have q2 : w6.cell? ⟨ob, 2, none⟩ = some (.int .i64 x.due) := HS.cell 2))
      refine ((done_fun ga g L tn x.kind x.what x.due (by omega) (by omega)).call (F := [HP.obj ob 31 [.int .i64 x.kind, .int .i64 x.what, .int .i64 x.due]]) ((HS.mv 1).mv 2 |>.mv 1) (fun _ _ _ _ => trivial)).mono ?_
      rintro e_ w7 ⟨rfl, HS_⟩
      clear HS q0 q1 q2
      obtain ⟨L2, HS1⟩ := St.ex_ HS_
      obtain ⟨tn2, HS2⟩ := St.ex_ HS1
      obtain ⟨⟨h1, h2⟩, HS3⟩ := St.and_ HS2
      have HS4 : St w S w7 [agS ga L2 tn2, docA g L2, HP.obj ob 31 [.int .i64 x.kind, .int .i64 x.what, .int .i64 x.due]] := HS3.star_
      clear HS_ HS1 HS2 HS3
      go_wp2
      go_roundw
      case rel => exact ⟨j + 1, L2, tn2, by omega, by go_num, by omega, by omega, HS4.out 2⟩
      case measure => simp [intOf]; omega
    · obtain rfl : j = script.length := by omega
      have hjd : decide ((script.length : Int) < (script.length : Int)) = false := decide_eq_false (by omega)
      go_wp2
      go_ret
      exact ⟨rfl, (HS.out 0).out 0⟩
end Go.Proofs.Ytiobcknobbimoaa.Ag
