/- The document's agenda: Drop, Set, Next, Pop walked. -/
import Derived.Test.YtiobcknobbimoaaAgN
namespace Go.Proofs.Ytiobcknobbimoaa.Ag
open Go.RowKit Go.Proofs.YtiobcknobbimoaaW.PrintWords Go.Proofs.YtiobcknobbimoaaW.PrintLast Go.Proofs.YtiobcknobbimoaaW.PrintMore Go.Proofs.Ytiobcknobbimoaa.Sl
set_option linter.unusedVariables false
set_option linter.unusedSimpArgs false
def kTh : Kd Th := Kd.iso (Kd.pair (Kd.int .i64) (Kd.int .i64)) (fun x : Th => (x.what, x.due))
theorem kTh_open {w : World} {x : Th} {cs : List Value} (h : kTh.K w x cs) : cs = [.int .i64 x.what, .int .i64 x.due] := by
  obtain ⟨_, _, rfl, rfl, rfl⟩ := h
  exact rfl
theorem kTh_mkM (w : World) (base : Nat) (ok : Nat → Prop) (x : Th) : kTh.M w base ok x [.int .i64 x.what, .int .i64 x.due] := ⟨[.int .i64 x.what], [.int .i64 x.due], rfl, rfl, rfl⟩
theorem infoTh : (Try.prog.info? 63).map (fun i => (i.zero, i.size, i.bytes)) = some (some (.agg #[.int .i64 0, .int .i64 0]), 2, 16) := by kernel_rfl
theorem flatTh : Flat kTh := fun w b x cs h => by
  obtain rfl := kTh_open h
  exact kTh_mkM _ _ _ _
theorem th_cells {w0 w : World} {S0 : Nat → Prop} {F : List HP} {g n c : Nat} {xs : List Th} (h : St w0 S0 w (HP.row kTh 63 (.slice (some ⟨g, 0, none⟩) n c) xs :: F)) (j : Nat) (hj : j < xs.length) :
    w.cell? ⟨g, j * 2, none⟩ = some (.int .i64 xs[j].what) ∧ w.cell? ⟨g, j * 2 + 1, none⟩ = some (.int .i64 xs[j].due) := by
  have hC := (St.row_reads h).2.2
  obtain ⟨ad, e1, hc⟩ := hC.2.2 (by omega)
  obtain rfl : ad = ⟨g, 0, none⟩ := (Option.some.inj e1).symm
  obtain ⟨cs, _, hK, hcell⟩ := hc j xs[j] (List.getElem?_eq_getElem hj)
  obtain rfl := kTh_open hK
  have q0 := hcell 0 _ rfl
  have q1 := hcell 1 _ rfl
  rw [add_plain] at q0 q1
  exact ⟨q0, q1⟩
def refH (g : Nat) (u : Value) (L : List Th) : HP := Sl.all [HP.obj g 29 [u], HP.row kTh 63 u L]
theorem refH_open {w0 w : World} {S0 : Nat → Prop} {F : List HP} {g : Nat} {u : Value} {L : List Th} (h : St w0 S0 w (refH g u L :: F)) : St w0 S0 w (HP.obj g 29 [u] :: HP.row kTh 63 u L :: F) := h.all_
theorem refH_shut {w0 w : World} {S0 : Nat → Prop} {F : List HP} {g : Nat} {u : Value} {L : List Th} (h : St w0 S0 w (HP.obj g 29 [u] :: HP.row kTh 63 u L :: F)) : St w0 S0 w (refH g u L :: F) := St.unall (L := [_, _]) h
def docA (g : Nat) (L : List Th) : HP := HP.ex fun u : Value => refH g u L
theorem dropL_take (L : List Th) (k : Int) (j : Nat) (hj : j < L.length) : dropL (L.take (j + 1)) k = dropL (L.take j) k ++ (if L[j].what ≠ k then [L[j]] else []) := by
  rw [List.take_succ_eq_append_getElem hj]
  unfold dropL
  rw [List.filter_append]
  congr 1
  by_cases h : L[j].what ≠ k
  · rw [if_pos h, List.filter_cons_of_pos (by simpa using h)]
    rfl
  · rw [if_neg h, List.filter_cons_of_neg (by simpa using h)]
    rfl
set_option maxHeartbeats 4000000 in
set_option maxRecDepth 20000 in
theorem refDrop_fun (g : Nat) (L : List Th) (k : Int) (hl : L.length ≤ 100000) : FunV Try.prog 19 #[.pointer (some ⟨g, 0, none⟩), .int .i64 k] (fun _ => True) [docA g L] (.tuple #[]) [docA g (dropL L k)] := by
  intro w S hS_ hR
  obtain ⟨u, HS⟩ := St.ex_ (St.start hS_)
  have HS := (refH_open HS).nil_ kTh 63
  clear hS_ hR
  have hu29 := Try.underlying29
  have hu27 := Try.underlying27
  have hu63 := Try.underlying63
  obtain ⟨A, c, rfl, hc, hC⟩ := St.row_C (HS.mv 2)
  clear hC
  go_enter Try.func19, Try.ntmps19
  go_wp2_with fail
  go_loopw [4, 5] (fun v4 v5 w' => ∃ j : Nat, j ≤ L.length ∧ v5 = .int .i64 j ∧ St w S w' [HP.row kTh 63 v4 (dropL (L.take j) k), HP.obj g 29 [.slice A L.length c], HP.row kTh 63 (.slice A L.length c) L]) (fun _ v5 _ => L.length - (intOf v5).toNat)
  case atStart => exact ⟨0, Nat.zero_le _, rfl, HS⟩
  case round =>
    clear HS
    obtain ⟨j, hj, rfl, HS⟩ := hrel
    have q0 : wr.cell? ⟨g, 0, none⟩ = some (.slice A L.length c) := (HS.mv 1).cell 0
    by_cases hlt : j < L.length
    · have hltI : (j : Int) < (L.length : Int) := by omega
      have hj0 : (0 : Int) ≤ (j : Int) := by omega
      have hjd : decide ((j : Int) < (L.length : Int)) = true := decide_eq_true hltI
      obtain ⟨g3, c3, ev⟩ := St.row_form (HS.mv 2) (by omega)
      obtain ⟨rfl, -, rfl⟩ : A = some ⟨g3, 0, none⟩ ∧ L.length = L.length ∧ c = c3 := by simpa using ev
      clear ev
      obtain ⟨i0, i1⟩ := th_cells (HS.mv 2) j hlt
      have hnx := dropL_take L k j hlt
      have hal : (dropL (L.take j) k).length ≤ j := Nat.le_trans (List.length_filter_le _ _) (by rw [List.length_take]; omega)
      obtain ⟨x, hx⟩ : ∃ x, L[j] = x := ⟨_, rfl⟩
      rw [hx] at i0 i1 hnx
      clear hx
      generalize dropL (L.take j) k = acc at HS hnx hal
      by_cases hk : x.what = k
      · rw [if_neg (fun h => h hk), List.append_nil] at hnx
        have HNX := Aside0.mk hnx
        have hkb : (x.what == k) = true := beq_iff_eq.2 hk
        clear hnx hk
        go_wp2
        go_roundw
        case rel => exact ⟨j + 1, by omega, by go_num, by rw [HNX.out]; exact HS⟩
        case measure => simp [intOf]; omega
      · rw [if_pos hk] at hnx
        have HNX := Aside0.mk hnx
        have hkb : (x.what == k) = false := beq_eq_false_iff_ne.2 hk
        clear hnx hk
        go_wp2_with (first
          | ((with_reducible refine gate_dst (N := 33) rfl ?_); refine ev_lit kTh 63 ?hg (N := 33) ?hd (xs := [x]) (inner := [.int .i64 x.what, .int .i64 x.due]) HS ?hr ?hp (by simp) ?_; (case hd => rfl); (case hg => rfl); (case hr => first | (go_simp; done) | (go_simp; rfl)); (case hp => exact reps1_ (kTh_mkM _ _ _ x) rfl); intro v8 w8 H3; clear HS; obtain ⟨B8, d8, rfl, hd8, hC8⟩ := St.row_C H3; clear hC8)
          | ((with_reducible refine gate_dst (N := 34) rfl ?_); at_builtin; refine ev_rows kTh flatTh rfl (.tmp 25) (.tmp 33) 27 63 _ 16 rfl Try.underlying27 infoTh rfl (by decide) (by omega) u4 acc [x] B8 d8 rfl rfl (H3.mv 1) ?hc ?hl ?_; (case hc => exact (St.row_reads H3).2.2); (case hl => (simp only [List.length_singleton]; omega)); intro v9 w9 H4; clear H3))
        go_roundw
        case rel => exact ⟨j + 1, by omega, by go_num, by rw [HNX.out]; exact H4.out 1⟩
        case measure => simp [intOf]; omega
    · obtain rfl : j = L.length := by omega
      have hjd : decide ((L.length : Int) < (L.length : Int)) = false := decide_eq_false (by omega)
      rw [List.take_length] at HS
      obtain ⟨B, e, rfl, he, hC⟩ := St.row_C HS
      clear hC
      generalize (dropL L k).length = n at HS he
      have q1 : wr.frozen? ⟨g, 0, none⟩ = false := (HS.mv 1).unfrozen 0
      have H1 := (HS.mv 1).set 0 (.slice B n e)
      have H2 : St w S (wr.setCell ⟨g, 0, none⟩ (.slice B n e)) [HP.obj g 29 [.slice B n e], HP.row kTh 63 (.slice B n e) (dropL L k), HP.row kTh 63 (.slice A L.length c) L] := H1
      have HE : Aside0 (St w S (wr.setCell ⟨g, 0, none⟩ (.slice B n e)) [docA g (dropL L k)]) := ⟨St.ex_in (.slice B n e) (refH_shut (H2.out 2))⟩
      clear HS H1 H2
      go_wp2
      go_end0
      exact ⟨rfl, HE.out⟩
set_option maxHeartbeats 4000000 in
set_option maxRecDepth 20000 in
theorem refSet_fun (g : Nat) (L : List Th) (k due : Int) (hl : L.length ≤ 100000) : FunV Try.prog 18 #[.pointer (some ⟨g, 0, none⟩), .int .i64 k, .int .i64 due] (fun _ => True) [docA g L] (.tuple #[]) [docA g (setL L k due)] := by
  intro w S hS_ hR
  have HS := St.start hS_
  clear hS_ hR
  have hu29 := Try.underlying29
  have hu27 := Try.underlying27
  have hu63 := Try.underlying63
  go_enter Try.func18, Try.ntmps18
  go_wp2_with fail
  refine ((refDrop_fun g L k hl).call (F := []) HS (fun _ _ _ _ => trivial)).mono ?_
  rintro e_ w1 ⟨rfl, HS_⟩
  clear HS
  have HS : St w S w1 [docA g (dropL L k)] := HS_
  clear HS_
  have hdl : (dropL L k).length ≤ L.length := List.length_filter_le _ _
  have HSL : Aside0 (setL L k due = dropL L k ++ [⟨k, due⟩]) := ⟨rfl⟩
  generalize dropL L k = M at HS hdl HSL
  obtain ⟨u, HS_⟩ := St.ex_ HS
  have H1 := refH_open HS_
  clear HS HS_
  obtain ⟨A, c, rfl, hc, hC⟩ := St.row_C (H1.mv 1)
  clear hC
  have q0 : w1.cell? ⟨g, 0, none⟩ = some (.slice A M.length c) := H1.cell 0
  go_wp2_with (first
    | ((with_reducible refine gate_dst (N := 17) rfl ?_); refine ev_lit kTh 63 ?hg (N := 17) ?hd (xs := [(⟨k, due⟩ : Th)]) (inner := [.int .i64 k, .int .i64 due]) H1 ?hr ?hp (by simp) ?_; (case hd => rfl); (case hg => rfl); (case hr => first | (go_simp; done) | (go_simp; rfl)); (case hp => exact reps1_ (kTh_mkM _ _ _ (⟨k, due⟩ : Th)) rfl); intro v8 w8 H3; clear H1 q0; obtain ⟨B8, d8, rfl, hd8, hC8⟩ := St.row_C H3; clear hC8)
    | ((with_reducible refine gate_dst (N := 18) rfl ?_); at_builtin; refine ev_rows kTh flatTh rfl (.tmp 13) (.tmp 17) 27 63 _ 16 rfl Try.underlying27 infoTh rfl (by decide) (by omega) _ M [(⟨k, due⟩ : Th)] B8 d8 rfl rfl (H3.mv 2) ?hc ?hl ?_; (case hc => exact (St.row_reads H3).2.2); (case hl => (simp only [List.length_singleton]; omega)); intro v9 w9 H4; clear H3; obtain ⟨B9, d9, hv9, hd9, hC9⟩ := St.row_C H4; clear hC9; obtain ⟨n9, hn9⟩ : ∃ n9, (M ++ [(⟨k, due⟩ : Th)]).length = n9 := ⟨_, rfl⟩; rw [hn9] at hv9 hd9; clear hn9; subst hv9; have p0 : w9.cell? ⟨g, 0, none⟩ = some (.slice A M.length c) := (H4.mv 2).cell 0; have p1 : w9.frozen? ⟨g, 0, none⟩ = false := (H4.mv 2).unfrozen 0))
  have H5 := (H4.mv 2).set 0 (.slice B9 n9 d9)
  have H6 : St w S (w9.setCell ⟨g, 0, none⟩ (.slice B9 n9 d9)) [HP.obj g 29 [.slice B9 n9 d9], HP.row kTh 63 (.slice B9 n9 d9) (M ++ [⟨k, due⟩]), HP.row kTh 63 (.slice B8 [(⟨k, due⟩ : Th)].length d8) [⟨k, due⟩]] := H5
  go_end0
  exact ⟨rfl, St.ex_in (.slice B9 n9 d9) (by rw [HSL.out]; exact refH_shut (H6.out 2))⟩
end Go.Proofs.Ytiobcknobbimoaa.Ag
