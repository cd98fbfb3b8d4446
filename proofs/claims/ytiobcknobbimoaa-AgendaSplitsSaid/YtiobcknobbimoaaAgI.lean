/- The law of rising times: walked. -/
import Derived.Test.YtiobcknobbimoaaAgK
namespace Go.Proofs.Ytiobcknobbimoaa.Ag
open Go.RowKit Go.Proofs.YtiobcknobbimoaaW.PrintWords Go.Proofs.YtiobcknobbimoaaW.PrintLast Go.Proofs.YtiobcknobbimoaaW.PrintMore Go.Proofs.Ytiobcknobbimoaa.Sl Go.Proofs.Ytiobcknobbimoaa.Row
set_option linter.unusedVariables false
set_option linter.unusedSimpArgs false
theorem wf_low {n : Int} (h : (Lit.int .i64 n).wf = true) : -9223372036854775808 ≤ n := by
  have h1 : decide (IntKind.i64.min ≤ n) = true := by
    simp only [Lit.wf, Bool.and_eq_true] at h
    exact h.1
  have h2 := of_decide_eq_true h1
  exact h2
theorem setsL_low (l : List OpA) (hB : ∀ x ∈ l, BOpA x) : ∀ t ∈ setsL l, -9223372036854775808 ≤ t.due := by
  have : ∀ (l : List OpA) (L : List Th), (∀ x ∈ l, BOpA x) → (∀ t ∈ L, -9223372036854775808 ≤ t.due) → ∀ t ∈ l.foldl (fun L x => setL L x.what x.due) L, -9223372036854775808 ≤ t.due := by
    intro l
    induction l with
    | nil => intro L _ h t ht; exact h t ht
    | cons x l ih =>
      intro L hB h t ht
      refine ih (setL L x.what x.due) (fun y hy => hB y (by simp [hy])) (fun u hu => ?_) t ht
      rcases List.mem_append.1 hu with hu | hu
      · exact h u (mem_drop.1 hu).1
      · rw [List.mem_singleton.1 hu]
        exact wf_low (hB x (by simp)).2.2
  exact this l [] hB (fun t ht => by simp at ht)
structure Rise (L : List Th) (m : List (Int × Bool)) (last : Int) (N : Nat) : Prop where
  low : ∀ t ∈ L, last ≤ t.due
  new_ : ∀ t ∈ L, mget m t.what = none
  sum : m.length + L.length = N
theorem rise_step {L : List Th} {m : List (Int × Bool)} {last : Int} {N : Nat} (hu : Uniq L) (h : Rise L m last N) {t : Th} (hn : nextL L = some t) : Rise (dropL L t.what) (mput m t.what true) t.due N := by
  obtain ⟨h1, h2⟩ := nextL_some hn
  have hk := h.new_ t h1
  refine ⟨fun u hu => h2 u (mem_drop.1 hu).1, fun u hu => ?_, ?_⟩
  · have hd := mem_drop.1 hu
    have hx := h.new_ u hd.1
    rw [mput_new t.what true hk]
    cases hm : mget (m ++ [(t.what, true)]) u.what with
    | none => rfl
    | some v =>
      have h3 : (mget (m ++ [(t.what, true)]) u.what).isSome = true := by rw [hm]; rfl
      rw [mget_keys, List.map_append, List.mem_append] at h3
      rcases h3 with h3 | h3
      · have := (mget_keys m u.what).2 h3
        rw [hx] at this
        cases this
      · exact absurd (by simpa using h3) hd.2
  · rw [mput_new t.what true hk, List.length_append, List.length_singleton]
    have := drop_len hu h1
    have := h.sum
    omega
set_option maxHeartbeats 8000000 in
set_option maxRecDepth 20000 in
theorem agendaRises_fun (A1 : Option Addr) (c1 : Nat) (l : List OpA) (hB : BOpAL l) (hc1 : l.length ≤ c1) :
    FunV Try.prog 4 #[.slice A1 l.length c1] (fun w => Kd.C kOpA w A1 l.length l) [] (.bool true) [] := by
  intro w S hS_ hR
  have HS := St.start hS_
  have HR := Aside0.mk hR
  have HLO := Aside0.mk (setsL_low l hB.2)
  clear hS_ hR hB
  have hu36 := Try.underlying36
  have hmm := @run_makeMap Try.prog
  go_enter Try.func4, Try.ntmps4
  go_wp2_with fail
  refine (awake_fun.call (F := []) HS (fun _ _ _ _ => trivial)).mono ?_
  rintro e_ w2 ⟨rfl, HS_⟩
  clear HS
  have HS : St w S w2 [] := HS_
  clear HS_
  rcases Nat.lt_or_ge 400 l.length with hl1 | hl1
  · have hd1 : decide ((l.length : Int) > 400) = true := decide_eq_true (by omega)
    go_wp2_with fail
    refine (awake_fun.call (F := []) HS (fun _ _ _ _ => trivial)).mono ?_
    rintro e_ w3 ⟨rfl, HS_⟩
    clear HS
    go_wp2
    go_ret
    exact ⟨rfl, HS_⟩
  have hd1 : decide ((l.length : Int) > 400) = false := decide_eq_false (by omega)
  go_wp2_with fail
  refine ((set_fun A1 c1 l hc1 (by omega)).call (F := []) HS (fun w' S' h _ => HR.out w' h)).mono ?_
  rintro e_ w3 ⟨r_, rfl, HS_⟩
  clear HS
  obtain ⟨ga, HS2⟩ := St.ex_ HS_
  obtain ⟨hr_, HS3⟩ := St.and_ HS2
  subst hr_
  have HS : St w S w3 [agS ga (setsL l) l.length] := HS3
  clear HS_ HS2 HS3 hd1
  have htn : l.length ≤ 10000 := by omega
  generalize l.length = tn at HS htn ⊢
  generalize setsL l = L0 at HS HLO ⊢
  obtain ⟨N, hN⟩ : ∃ N, L0.length = N := ⟨_, rfl⟩
  have HRI : Aside0 (Rise L0 [] (-9223372036854775808) N) := ⟨⟨HLO.out, fun t _ => rfl, by rw [← hN]; simp⟩⟩
  rw [hN]
  clear hN
  have H1 := HS.map_made (.int .i64) (fun k : Int => Value.int .i64 k) Value.bool intKey intInj
  clear HS
  go_wp2_with fail
  clear hmm
  have HS : St w S (w3.alloc (.map #[] 0)) [MB w3.heap.size [], agS ga L0 tn] := H1
  clear H1
  generalize w3.alloc (.map #[] 0) = w4 at HS ⊢
  generalize w3.heap.size = mb at HS ⊢
  go_loopw [5] (fun v5 w' => ∃ (L : List Th) (m : List (Int × Bool)) (last : Int), v5 = .int .i64 last ∧ Aside0 (Rise L m last N) ∧ St w S w' [MB mb m, agS ga L tn]) (fun _ w' => qLen w' ga)
  case atStart => exact ⟨L0, [], _, rfl, HRI, HS⟩
  case round =>
    clear HS HRI
    obtain ⟨L, m, last, rfl, HRI, HS⟩ := hrel
    have hq0 := agS_len (HS.mv 1)
    go_wp2_with fail
    refine ((next_ag ga L tn).call (F := [MB mb m]) (HS.mv 1) (fun _ _ _ _ => trivial)).mono ?_
    rintro e_ w6 ⟨rfl, HS_⟩
    clear HS
    have HS : St w S w6 [agS ga L tn, MB mb m] := HS_
    clear HS_
    have HUQ := Aside0.mk (agS_uniq HS)
    cases hnt : nextL L with
    | none =>
      have hL := nextL_none hnt
      have HE : Aside0 (nextR L = .tuple #[.int .i64 0, .int .i64 0, .bool false]) := ⟨by unfold nextR; rw [hnt]⟩
      have hsum := HRI.out.sum
      subst hL
      rw [List.length_nil, Nat.add_zero] at hsum
      rw [HE.out]
      clear HE hnt
      go_wp2_with fail
      refine ((pop_ag ga [] tn 9223372036854775807 htn).call (F := [MB mb m]) HS (fun _ _ _ _ => trivial)).mono ?_
      rintro e_ w7 ⟨rfl, HS_⟩
      clear HS
      have HS : St w S w7 [MB mb m, agS ga [] tn] := HS_.mv 1
      clear HS_
      rw [show popR [] 9223372036854775807 = .tuple #[.int .i64 0, .bool false] from rfl]
      obtain ⟨es, clock, hbk, hes⟩ := St.map_size HS
      have hlen : ∀ ty, (Builtin.len_ #[36] ty #[.map (some mb)]).run Try.prog w7 = .ok (.int .i64 (N : Int)) w7 := fun ty => by
        rw [run_len_map (P := Try.prog) (w := w7) 36 ty mb es clock (by kernel_rfl) hbk, hes, hsum]
        rfl
      have hNN : ((N : Int) == (N : Int)) = true := beq_iff_eq.2 rfl
      clear hbk hes hsum
      go_wp2_with fail
      refine ((len_ag ga [] tn).call (F := [MB mb m]) (HS.mv 1) (fun _ _ _ _ => trivial)).mono ?_
      rintro e_ w8 ⟨rfl, HS_⟩
      clear HS hlen
      rw [show ((([] : List Th).length : Nat) : Int) = 0 from rfl]
      go_wp2
      go_ret
      exact ⟨by first | rfl | simp, (HS_.out 0).out 0⟩
    | some t =>
      have HE : Aside0 (nextR L = .tuple #[.int .i64 t.what, .int .i64 t.due, .bool true]) := ⟨by unfold nextR; rw [hnt]⟩
      have HPR : Aside0 (popR L t.due = .tuple #[.int .i64 t.what, .bool true]) := ⟨by unfold popR; rw [hnt]; exact if_neg (by omega)⟩
      have HPL : Aside0 (popL L t.due = dropL L t.what) := ⟨by unfold popL; rw [hnt]; exact if_neg (by omega)⟩
      have hmem := (nextL_some hnt).1
      have HR2 := Aside0.mk (rise_step HUQ.out HRI.out hnt)
      have hlow := HRI.out.low t hmem
      have hnew := HRI.out.new_ t hmem
      have hdl := drop_len HUQ.out hmem
      rw [HE.out]
      clear HE hnt hmem
      go_wp2_with fail
      refine ((pop_ag ga L tn t.due htn).call (F := [MB mb m]) HS (fun _ _ _ _ => trivial)).mono ?_
      rintro e_ w7 ⟨rfl, HS_⟩
      clear HS
      have HS : St w S w7 [MB mb m, agS ga (dropL L t.what) tn] := by rw [← HPL.out]; exact HS_.mv 1
      clear HS_
      rw [HPR.out]
      have hq1 := agS_len (HS.mv 1)
      have hlk := (St.map_look (P := Try.prog) (t := 36) (kt := 3) (et := 4) HS Try.underlying36 Try.underlying3 t.what (z := .bool false) (fun w => by kernel_rfl)).2
      rw [hnew] at hlk
      have hlk2 : (Instr.lookup 36 (.map (some mb)) (.int .i64 t.what) false).run Try.prog w7 = .ok (.bool false) w7 := hlk
      obtain ⟨w8, hmu, H8⟩ := St.map_store (P := Try.prog) (t := 36) (kt := 3) HS Try.underlying36 Try.underlying3 t.what true
      have hmu2 : (Instr.mapUpdate 36 (.map (some mb)) (.int .i64 t.what) (.bool true)).run Try.prog w7 = .ok () w8 := hmu
      have hld : decide (t.due < last) = false := decide_eq_false (by omega)
      have hww : (t.what == t.what) = true := beq_iff_eq.2 rfl
      have H9 : Aside0 (St w S w8 [MB mb (mput m t.what true), agS ga (dropL L t.what) tn]) := ⟨H8⟩
      have hq2 := agS_len (H9.out.mv 1)
      have hlt : qLen w8 ga < qLen wr ga := by omega
      have HLT := Aside0.mk hlt
      clear hq0 hq1 hq2 hlt hdl hlk hmu H8 hlow hnew HS
      go_wp2
      go_roundw
      case rel => exact ⟨dropL L t.what, mput m t.what true, t.due, rfl, HR2, H9.out⟩
      case measure => first | exact HLT.out | (have := HLT.out; simpa using this)
end Go.Proofs.Ytiobcknobbimoaa.Ag
