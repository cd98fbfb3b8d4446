/- The law of what is set last: walked. -/
import Derived.Test.YtiobcknobbimoaaAgL
namespace Go.Proofs.Ytiobcknobbimoaa.Ag
open Go.RowKit Go.Proofs.YtiobcknobbimoaaW.PrintWords Go.Proofs.YtiobcknobbimoaaW.PrintLast Go.Proofs.YtiobcknobbimoaaW.PrintMore Go.Proofs.Ytiobcknobbimoaa.Sl Go.Proofs.Ytiobcknobbimoaa.Row
set_option linter.unusedVariables false
set_option linter.unusedSimpArgs false
/-- How long a queue is, read off the memory. -/
def qLen (w : World) (ga : Nat) : Nat := match w.cell? ⟨ga, 0, none⟩ with
  | some (.slice _ n _) => n
  | _ => 0
theorem agS_len {w0 w : World} {S0 : Nat → Prop} {F : List HP} {ga tn : Nat} {L : List Th} (h : St w0 S0 w (agS ga L tn :: F)) : qLen w ga = L.length := by
  obtain ⟨v, q, m, mb, L', ha, h1⟩ := agS_open h
  obtain ⟨A, c, rfl, hc⟩ := hS_slice h1
  unfold qLen
  rw [hS_cell h1]
  exact ag_len ha
theorem uniq_eq : ∀ {L : List Th} (hu : Uniq L) {a b : Th} (ha : a ∈ L) (hb : b ∈ L) (h : a.what = b.what), a = b
  | [], _, a, b, ha, _, _ => by simp at ha
  | x :: L, hu, a, b, ha, hb, h => by
    obtain ⟨h1, h2⟩ := List.pairwise_cons.1 hu
    rcases List.mem_cons.1 ha with e1 | ha'
    · rcases List.mem_cons.1 hb with e2 | hb'
      · rw [e1, e2]
      · rw [e1] at h
        exact absurd h (h1 b hb')
    · rcases List.mem_cons.1 hb with e2 | hb'
      · rw [e2] at h
        exact absurd h.symm (h1 a ha')
      · exact uniq_eq h2 ha' hb' h
theorem next_some {L : List Th} {t : Th} (h : t ∈ L) : ∃ u, nextL L = some u := by
  cases hn : nextL L with
  | none => rw [nextL_none hn] at h; simp at h
  | some u => exact ⟨u, rfl⟩
set_option maxHeartbeats 8000000 in
set_option maxRecDepth 20000 in
theorem agendaLast_fun (A1 : Option Addr) (c1 : Nat) (l : List OpA) (hB : BOpAL l) (hc1 : l.length ≤ c1) (what : Int) (hw : (Lit.int .i64 what).wf = true) (one : Int) (ho : (Lit.int .i64 one).wf = true) (two : Int) (ht : (Lit.int .i64 two).wf = true) :
    FunV Try.prog 5 #[.slice A1 l.length c1, .int .i64 what, .int .i64 one, .int .i64 two] (fun w => Kd.C kOpA w A1 l.length l) [] (.bool true) [] := by
  intro w S hS_ hR
  have HS := St.start hS_
  have HR := Aside0.mk hR
  clear hS_ hR hB hw ho ht
  go_enter Try.func5, Try.ntmps5
  go_wp2_with fail
  refine (awake_fun.call (F := []) HS (fun _ _ _ _ => trivial)).mono ?_
  rintro e_ w2 ⟨rfl, HS_⟩
  clear HS
  have HS : St w S w2 [] := HS_
  clear HS_
  rcases Nat.lt_or_ge 400 l.length with hl1 | hl1
  · have hd1 : decide ((l.length : Int) > 400) = true := decide_eq_true (by omega)
    go_wp2_with fail
    refine (awake_fun.call (F := []) HS (fun _ _ _ _ => trivial)).mono ?_
    rintro e_ w3 ⟨rfl, HS_⟩
    clear HS
    go_wp2
    go_ret
    exact ⟨rfl, HS_⟩
  have hd1 : decide ((l.length : Int) > 400) = false := decide_eq_false (by omega)
  go_wp2_with fail
  refine ((set_fun A1 c1 l hc1 (by omega)).call (F := []) HS (fun w' S' h _ => HR.out w' h)).mono ?_
  rintro e_ w3 ⟨r_, rfl, HS_⟩
  clear HS
  obtain ⟨ga, HS2⟩ := St.ex_ HS_
  obtain ⟨hr_, HS3⟩ := St.and_ HS2
  subst hr_
  have HS : St w S w3 [agS ga (setsL l) l.length] := HS3
  clear HS_ HS2 HS3 hd1
  go_wp2_with fail
  refine ((set_ag ga (setsL l) l.length what one (by omega)).call (F := []) HS (fun _ _ _ _ => trivial)).mono ?_
  rintro e_ w4 ⟨rfl, HS_⟩
  clear HS
  have HS : St w S w4 [agS ga (setL (setsL l) what one) (l.length + 1)] := HS_
  clear HS_
  go_wp2_with fail
  refine ((set_ag ga (setL (setsL l) what one) (l.length + 1) what two (by omega)).call (F := []) HS (fun _ _ _ _ => trivial)).mono ?_
  rintro e_ w5 ⟨rfl, HS_⟩
  clear HS
  have HS : St w S w5 [agS ga (setL (setL (setsL l) what one) what two) (l.length + 1 + 1)] := HS_
  have HIN : Aside0 ((⟨what, two⟩ : Th) ∈ setL (setL (setsL l) what one) what two) := ⟨List.mem_append.2 (.inr (List.mem_singleton.2 rfl))⟩
  clear HS_
  generalize setL (setL (setsL l) what one) what two = L0 at HS HIN
  have htn : l.length + 1 + 1 ≤ 10000 := by omega
  generalize l.length + 1 + 1 = tn at HS htn
  go_wp2_with fail
  go_loopw [13] (fun _ w' => ∃ L : List Th, Aside0 ((⟨what, two⟩ : Th) ∈ L) ∧ St w S w' [agS ga L tn]) (fun _ w' => qLen w' ga)
  case atStart => exact ⟨L0, HIN, HS⟩
  case round =>
    clear HS HIN
    obtain ⟨L, HIN, HS⟩ := hrel
    have hq0 := agS_len HS
    go_wp2_with fail
    refine ((next_ag ga L tn).call (F := []) HS (fun _ _ _ _ => trivial)).mono ?_
    rintro e_ w6 ⟨rfl, HS_⟩
    clear HS
    have HS : St w S w6 [agS ga L tn] := HS_
    clear HS_
    have HUQ := Aside0.mk (agS_uniq HS)
    obtain ⟨t, hnt⟩ := next_some HIN.out
    have hmem := (nextL_some hnt).1
    have HE : Aside0 (nextR L = .tuple #[.int .i64 t.what, .int .i64 t.due, .bool true]) := ⟨by unfold nextR; rw [hnt]⟩
    rw [HE.out]
    clear HE hnt
    by_cases hw : t.what = what
    · have hte : t = ⟨what, two⟩ := uniq_eq HUQ.out hmem HIN.out hw
      subst hte
      have hb1 : (what == what) = true := beq_iff_eq.2 rfl
      have hb2 : (two == two) = true := beq_iff_eq.2 rfl
      clear hw hmem
      go_wp2
      go_ret
      exact ⟨by first | rfl | simp, HS.out 0⟩
    · have hb1 : (t.what == what) = false := beq_eq_false_iff_ne.2 hw
      have HIN2 : Aside0 ((⟨what, two⟩ : Th) ∈ dropL L t.what) := ⟨mem_drop.2 ⟨HIN.out, fun e => hw e.symm⟩⟩
      have hdl := drop_len HUQ.out hmem
      clear hw hmem
      go_wp2_with fail
      refine ((drop_ag ga L tn t.what htn).call (F := []) HS (fun _ _ _ _ => trivial)).mono ?_
      rintro e_ w7 ⟨rfl, HS_⟩
      clear HS
      have HS : St w S w7 [agS ga (dropL L t.what) tn] := HS_
      clear HS_
      have hq1 := agS_len HS
      have hlt : qLen w7 ga < qLen wr ga := by omega
      have HLT := Aside0.mk hlt
      clear hq1 hdl hlt hq0
      go_wp2
      go_roundw
      case rel => exact ⟨dropL L t.what, HIN2, HS⟩
      case measure => first | exact HLT.out | (have := HLT.out; simpa using this)
end Go.Proofs.Ytiobcknobbimoaa.Ag
