import Derived.Test.YtobjiamaapcbmaaSp4
import Derived.Lib.MinMaxS
import Derived.StillTailTactics
import Derived.IntWalk
import Derived.Deep.DeepMust
namespace Go.Proofs.Ytobjiamaapcbmaa.Sp
open Go.RowKit Go.Proofs.YtobjiamaapcbmaaW.PrintWords Go.Proofs.YtobjiamaapcbmaaW.PrintLast Go.Proofs.YtobjiamaapcbmaaW.PrintMore Go.Proofs.Ytobjiamaapcbmaa.Sl PRef
set_option linter.unusedVariables false
set_option linter.unusedSimpArgs false
attribute [local go_sem] Lib.run_max_strs Lib.run_min_strs
def partF (l : List ByteArray) (p : S34) (i : Nat) : S34 := ⟨if 0 < i then Lib.maxS p.f0 (l.getD (i - 1) ByteArray.empty) else p.f0, if i < l.length then Lib.minS p.f1 (l.getD i ByteArray.empty) else p.f1⟩
def partsTo (l : List ByteArray) (p : S34) : Nat → List S39
  | 0 => []
  | i + 1 => partsTo l p i ++ (if Op.bytesLess (partF l p i).f0.toList (partF l p i).f1.toList = true then [⟨i, partF l p i⟩] else [])
def Stop (p : Prop) : Prop := p
theorem stop_ {p : Prop} (h : Stop p) : p := h
theorem partsTo_le (l : List ByteArray) (p : S34) : ∀ k, (partsTo l p k).length ≤ k
  | 0 => Nat.le_refl _
  | k + 1 => by
    have := partsTo_le l p k
    simp only [partsTo, List.length_append]
    split <;> simp <;> omega
theorem flat_k34 : Flat k34 := fun w b x cs h => by
  obtain rfl := k34_open h
  exact k34_mkM _ _ _ _
theorem flat_k39 : Flat k39 := fun w b x cs h => by
  obtain rfl := k39_open h
  exact k39_mkM _ _ _ _
theorem size_fun (g : Nat) (l : List ByteArray) (hl : l.length ≤ 140737488355328) : FunV Try.prog 11 #[.pointer (some ⟨g, 0, none⟩)] (fun _ => True) [Split g l] (.int .i64 ((l.length : Int) + 1)) [Split g l] := by
  intro w S hS hR
  obtain ⟨v, H⟩ := (St.start hS).ex_
  have H := H.star_
  obtain ⟨A, c, rfl, hc, hC⟩ := St.row_C (H.mv 1)
  have hcell : w.cell? ⟨g, 0, none⟩ = some (.slice A l.length c) := H.cell 0
  refine (size_some w ⟨g, 0, none⟩ A l.length c hl hcell).mono ?_
  rintro e w' ⟨rfl, rfl⟩
  exact ⟨rfl, St.ex_in _ H.unstar⟩
theorem find_fun (g : Nat) (l : List ByteArray) (key : ByteArray) (hl : l.length ≤ 140737488355328) : FunV Try.prog 13 #[.pointer (some ⟨g, 0, none⟩), .string key] (fun _ => True) [Split g l] (.int .i64 (cnt key l)) [Split g l] := by
  intro w S hS hR
  obtain ⟨v, H⟩ := (St.start hS).ex_
  have H := H.star_
  obtain ⟨A, c, rfl, hc, hC⟩ := St.row_C (H.mv 1)
  have hcell : w.cell? ⟨g, 0, none⟩ = some (.slice A l.length c) := H.cell 0
  refine (find_some w ⟨g, 0, none⟩ A c l key hl hcell hC).mono ?_
  rintro e w' ⟨rfl, rfl⟩
  exact ⟨rfl, St.ex_in _ H.unstar⟩

set_option maxHeartbeats 1000000 in
theorem parts_fun (g : Nat) (l : List ByteArray) (p : S34) (hl : l.length * 16 ≤ 1000000) :
    Fun Try.prog 14 #[.pointer (some ⟨g, 0, none⟩), .agg #[.string p.f0, .string p.f1]] (fun _ => True) [Split g l] (fun v => [HP.row k39 39 v (partsTo l p (l.length + 1)), Split g l]) := by
  intro w S hS hR
  obtain ⟨v, H⟩ := (St.start hS).ex_
  have H := H.star_
  obtain ⟨A, c, rfl, hc, hC⟩ := St.row_C (H.mv 1)
  have hcell : w.cell? ⟨g, 0, none⟩ = some (.slice A l.length c) := H.cell 0
  have hu34 := Try.underlying34
  have hu39 := Try.underlying39
  clear hC hS
  go_enter Try.func14, Try.ntmps14
  go_wp2_with (first
    | ((with_reducible refine gate_dst (N := 3) rfl ?_); refine ev_box ?hg (N := 3) ?hd (cs := [.string p.f0, .string p.f1]) (t := 34) H ?hr ?_; (case hd => rfl); (case hg => rfl); (case hr => first | (go_simp; done) | (go_simp; rfl)); intro gp w1 H1 hgp)
    | (go_at_call 11; refine ((size_fun g l (by omega)).call (F := [HP.obj gp 34 [.string p.f0, .string p.f1]]) (St.ex_in (f := fun v => HP.star (HP.obj g 45 [v]) (HP.row Kd.string 9 v l)) _ ((H1.mv 2).mv 2).unstar) (fun _ _ _ _ => trivial)).mono ?_; rintro e w2 ⟨rfl, H2⟩))
  go_loopw [5, 10] (fun v5 i w' => ∃ k : Nat, k ≤ l.length + 1 ∧ i = .int .i64 k ∧ St w S w' [HP.row k39 39 v5 (partsTo l p k), Split g l, HP.obj gp 34 [.string p.f0, .string p.f1]]) (fun _ i _ => l.length + 1 - (intOf i).toNat)
  case atStart => exact ⟨0, Nat.zero_le _, rfl, H2.nil_ _ _⟩
  case round =>
    obtain ⟨k, hk, rfl, Hr⟩ := hrel
    by_cases hlt : k < l.length + 1
    · obtain ⟨vb, H3⟩ := (Hr.mv 1).ex_
      have H3 := H3.star_
      obtain ⟨A, c, rfl, hc, hC⟩ := St.row_C (H3.mv 1)
      have hC := Aside0.mk hC
      have hcg : wr.cell? ⟨g, 0, none⟩ = some (.slice A l.length c) := H3.cell 0
      have hp0 : wr.cell? ⟨gp, 0, none⟩ = some (.string p.f0) := (H3.mv 3).cell 0
      have hp1 : wr.cell? ⟨gp, 1, none⟩ = some (.string p.f1) := (H3.mv 3).cell 1
      have hlt' : ((k : Int) < (l.length : Int) + 1) := by omega
      clear H H1 H2 hcell hR
      go_upto_if 15 with (fail)
      have H4 := H3.alloc (Obj.cells #[.string p.f0, .string p.f1] 34)
      generalize wr.alloc (Obj.cells #[.string p.f0, .string p.f1] 34) = W at H4 ⊢
      generalize wr.heap.size = gq at H4 ⊢
      clear hcg hp0 hp1 hC Hr H3
      go_cut [] (fun wc => St w S wc [HP.obj gq 34 [.string (partF l p k).f0, .string p.f1], HP.obj g 45 [.slice A l.length c], HP.row Kd.string 9 (.slice A l.length c) l, HP.row k39 39 u5 (partsTo l p k), HP.obj gp 34 [.string p.f0, .string p.f1]])
      case first =>
        have hq0 : W.cell? ⟨gq, 0, none⟩ = some (.string p.f0) := H4.cell (cs := [.string p.f0, .string p.f1]) 0
        have hf0 : W.frozen? ⟨gq, 0, none⟩ = false := H4.unfrozen (cs := [.string p.f0, .string p.f1]) 0
        have hcg' : W.cell? ⟨g, 0, none⟩ = some (.slice A l.length c) := (H4.mv 1).cell 0
        by_cases h0 : 0 < k
        · have hC' := Aside0.mk (St.row_reads (H4.mv 2)).2.2
          obtain ⟨ad', rfl, hx'⟩ := Kd.at_string hC'.out ((k - 1 : Nat) : Int) (by omega) (by omega)
          rw [Int.toNat_natCast] at hx'
          have hw1 : IntKind.i64.wrap ((k : Int) - 1) = ((k - 1 : Nat) : Int) := by
            rw [IntWalk.i64_in _ (by omega)]; omega
          have hk1 : k - 1 < l.length := by omega
          go_wp2
          go_still_tail 11, (by kernel_rfl)
          change wpList _ _ _ _ _ W.drew
          go_wp2
          go_meet
          case rel =>
            have h := (H4.set (t := 34) (cs := [.string p.f0, .string p.f1]) 0 (.string (partF l p k).f0)).drew
            unfold partF at h ⊢
            rw [if_pos h0] at h ⊢
            exact h
        · go_wp2
          go_outline
          go_meet
          case rel =>
            unfold partF
            rw [if_neg h0]
            exact H4
      case rest =>
        clear H4
        have hcg : wc.cell? ⟨g, 0, none⟩ = some (.slice A l.length c) := (hcut.mv 1).cell 0
        generalize hfr : (partF l p k).f0 = fr at hcut
        have HFR := Aside0.mk hfr
        clear hfr
        go_upto_if 34 with (fail)
        go_cut [] (fun wc => St w S wc [HP.obj gq 34 [.string fr, .string (partF l p k).f1], HP.obj g 45 [.slice A l.length c], HP.row Kd.string 9 (.slice A l.length c) l, HP.row k39 39 u5 (partsTo l p k), HP.obj gp 34 [.string p.f0, .string p.f1]])
        case first =>
          have hq1 : wc.cell? ⟨gq, 1, none⟩ = some (.string p.f1) := hcut.cell 1
          have hf1 : wc.frozen? ⟨gq, 1, none⟩ = false := hcut.unfrozen 1
          by_cases h1 : k < l.length
          · have hC' := Aside0.mk (St.row_reads (hcut.mv 2)).2.2
            obtain ⟨ad', rfl, hx'⟩ := Kd.at_string hC'.out ((k : Nat) : Int) (by omega) (by omega)
            rw [Int.toNat_natCast] at hx'
            go_wp2
            go_still_tail 10, (by kernel_rfl)
            change wpList _ _ _ _ _ wc.drew
            go_wp2
            go_meet
            case rel =>
              have h := (hcut.set 1 (.string (partF l p k).f1)).drew
              unfold partF at h ⊢
              rw [if_pos h1] at h ⊢
              exact h
          · go_wp2
            go_meet
            case rel =>
              unfold partF
              rw [if_neg h1]
              exact hcut
        case rest =>
          clear hcg
          have hlen := partsTo_le l p k
          have hstep : Aside0 (partsTo l p (k + 1) = partsTo l p k ++ (if Op.bytesLess (partF l p k).f0.toList (partF l p k).f1.toList = true then [⟨k, partF l p k⟩] else [])) := ⟨rfl⟩
          have hpf : Aside0 (partF l p k = ⟨fr, (partF l p k).f1⟩) := ⟨by rw [← HFR.out]⟩
          rw [HFR.out] at hstep
          generalize (partF l p k).f1 = tu at hcut hstep hpf
          have hq0 : wc.cell? ⟨gq, 0, none⟩ = some (.string fr) := hcut.cell 0
          have hq1 : wc.cell? ⟨gq, 1, none⟩ = some (.string tu) := hcut.cell 1
          by_cases hb : Op.bytesLess fr.toList tu.toList = true
          · have HA : St w S wc [HP.row k39 39 u5 (partsTo l p k), HP.cells k39 ⟨k, ⟨fr, tu⟩⟩ [.int .i64 k, .string fr, .string tu], HP.obj g 45 [.slice A l.length c], HP.row Kd.string 9 (.slice A l.length c) l, HP.obj gp 34 [.string p.f0, .string p.f1]] := (((hcut.out 0).mv 2).cells_ (k39_mkM _ _ _ ⟨k, ⟨fr, tu⟩⟩)).mv 1
            go_wp2_with (((with_reducible refine gate_dst (N := 56) rfl ?_); at_builtin; refine ev_append k39 rfl (.tmp 51) (.tmp 55) 35 39 _ 40 rfl Try.underlying35 info39 rfl (by decide) (by omega) u5 (partsTo l p k) ⟨k, ⟨fr, tu⟩⟩ [.int .i64 k, .string fr, .string tu] rfl rfl HA (by omega) ?_; intro v3 w3 H3))
            go_roundw
            case rel => exact ⟨k + 1, by omega, by go_num, by rw [hstep.out, if_pos hb, hpf.out]; exact (St.ex_in (f := fun v => HP.star (HP.obj g 45 [v]) (HP.row Kd.string 9 v l)) _ ((H3.mv 2).mv 2).unstar).mv 1⟩
            case measure => simp [intOf]; omega
          · have hb' : Op.bytesLess fr.toList tu.toList = false := by simpa using hb
            go_wp2
            go_roundw
            case rel => exact ⟨k + 1, by omega, by go_num, by rw [hstep.out, if_neg hb, List.append_nil]; exact (St.ex_in (f := fun v => HP.star (HP.obj g 45 [v]) (HP.row Kd.string 9 v l)) _ (hcut.out 0).unstar).mv 1⟩
            case measure => simp [intOf]; omega
    · obtain rfl : k = l.length + 1 := by omega
      go_wp2
      go_ret
      exact ⟨_, rfl, Hr.out 2⟩
end Go.Proofs.Ytobjiamaapcbmaa.Sp
