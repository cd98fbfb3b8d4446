import Derived.Test.YtobjiamaapcbmaaPu4
namespace Go.Proofs.Ytobjiamaapcbmaa.Sp
open Go.RowKit Go.Proofs.YtobjiamaapcbmaaW.PrintWords Go.Proofs.YtobjiamaapcbmaaW.PrintLast Go.Proofs.YtobjiamaapcbmaaW.PrintMore Go.Proofs.Ytobjiamaapcbmaa.Sl PRef Str
set_option linter.unusedVariables false
set_option linter.unusedSimpArgs false
set_option maxHeartbeats 2000000 in
theorem splitParts_fun (A : Option Addr) (c : Nat) (l : List ByteArray) (p : S34) (hp : Sm p.f0) (hp1 : Sm p.f1) (hs : ∀ b ∈ l, Sm b) (hl : l.length * 16 ≤ 140737488355328) (hc : l.length ≤ c) :
    FunV Try.prog 5 #[.slice A l.length c, .agg #[.string p.f0, .string p.f1]] (fun w => Kd.C Kd.string w A l.length l) [] (.bool true) [] := by
  intro w S hS hR
  have H := St.start hS
  have HR := Aside0.mk hR
  have HS := Aside0.mk hs
  clear hS hR hs
  have hu22 := Try.underlying22
  have hu34 := Try.underlying34
  have hu39 := Try.underlying39
  go_enter Try.func5, Try.ntmps5
  go_wp2_with (first
    | ((with_reducible refine gate_dst (N := 3) rfl ?_); refine ev_box ?hg (N := 3) ?hd (cs := [.string p.f0, .string p.f1]) (t := 34) H ?hr ?_; (case hd => rfl); (case hg => rfl); (case hr => first | (go_simp; done) | (go_simp; rfl)); intro gp w0 H0 hgp)
    | ((with_reducible refine gate_dst (N := 12) rfl ?_); refine ev_lit Kd.string 9 ?hg (N := 12) ?hd (xs := ([] : List ByteArray)) (inner := []) H0 ?hr ?hp (by simp) ?_; (case hd => rfl); (case hg => rfl); (case hr => first | (go_simp; done) | (go_simp; rfl)); (case hp => exact Reps.none _ _); intro v1 w1 H1)
    | ((with_reducible refine gate_dst (N := 14) rfl ?_); at_builtin; refine ev_rows Kd.string flat_string rfl (.tmp 12) (.tmp 13) 22 9 _ 16 rfl Try.underlying22 info9 rfl (by decide) (by omega) v1 [] l A c rfl rfl H1 ?hc ?hl ?_; (case hc => exact HR.out _ H1.ext); (case hl => simp; omega); intro v2 w2 H2; rw [List.nil_append] at H2; obtain ⟨A2, c2, rfl, hc2, hC2⟩ := St.row_C H2; clear hC2))
  have HN := (new_fun A2 c2 l hl).call (F := [HP.row Kd.string 9 (.slice A2 l.length c2) l, HP.obj gp 34 [.string p.f0, .string p.f1]]) H2 (fun w' _ _ hf => row_rd hf)
  clear H H0 H1 H2
  by_cases hn : newOk l = true
  · refine HN.mono ?_
    rintro e w3 ⟨v3, rfl, H3⟩
    rw [newPost_yes hn] at H3
    obtain ⟨g, H4⟩ := St.ex_ H3
    obtain ⟨rfl, H5⟩ := St.and_ H4
    have H6 : St w S w3 [Split g l, HP.row Kd.string 9 (.slice A2 l.length c2) l, HP.obj gp 34 [.string p.f0, .string p.f1]] := H5
    clear H3 H4 H5 HN
    have hl4 : l.length < 4 := by
      unfold newOk at hn
      simp at hn
      exact hn.1
    clear hn
    go_wp2_with fail
    refine (awake_fun.call (F := [Split g l, HP.row Kd.string 9 (.slice A2 l.length c2) l, HP.obj gp 34 [.string p.f0, .string p.f1]]) H6 (fun _ _ _ _ => trivial)).mono ?_
    rintro e w5 ⟨rfl, H7⟩
    have H7 : St w S w5 [Split g l, HP.row Kd.string 9 (.slice A2 l.length c2) l, HP.obj gp 34 [.string p.f0, .string p.f1]] := H7
    clear H6
    go_wp2
    go_loopw [8, 29] (fun v8 i w' => ∃ (k : Nat) (ys : List ByteArray), k ≤ l.length ∧ ys.length = l.length ∧ i = .int .i64 k ∧ St w S w' [HP.row Kd.string 9 (.slice A2 l.length c2) ys, Split g l, HP.obj gp 34 [.string p.f0, .string p.f1]]) (fun _ i _ => l.length - (intOf i).toNat)
    case atStart => exact ⟨0, l, Nat.zero_le _, rfl, rfl, H7.mv 1⟩
    case round =>
      obtain ⟨k, ys, hkl, hyl, rfl, Hr⟩ := hrel
      clear H7
      by_cases hlt : k < l.length
      · obtain ⟨g2, c3, e2⟩ := St.row_form Hr (by omega)
        simp only [Value.slice.injEq] at e2
        obtain ⟨rfl, _, rfl⟩ := e2
        obtain ⟨h1, h2⟩ := St.row_cell ByteArray.empty Hr k hlt
        have HY := Aside0.mk hyl
        clear hyl
        go_wp2
        go_roundw
        case rel => exact ⟨k + 1, _, by omega, by rw [List.length_set]; exact HY.out, by go_num, St.row_set Hr k _⟩
        case measure => simp [intOf]; omega
      · clear hyl
        have hq0 : wr.cell? ⟨gp, 0, none⟩ = some (.string p.f0) := (Hr.mv 2).cell 0
        have hq1 : wr.cell? ⟨gp, 1, none⟩ = some (.string p.f1) := (Hr.mv 2).cell 1
        have Hd := ((Hr.mv 2).mv 2).drew
        clear Hr
        go_wp2_with fail
        go_region_held3 (fun w' => w'.cell? ⟨gp, 0, none⟩ = some (.string p.f0) ∧ w'.cell? ⟨gp, 1, none⟩ = some (.string p.f1)) (first | exact ⟨hq0, hq1⟩ | exact ⟨(H8.mv 2).cell 0, (H8.mv 2).cell 1⟩ | exact ⟨(H9.mv 3).cell 0, (H9.mv 3).cell 1⟩)
          (first
            | (go_at_call 14; refine ((parts_fun g l p (by omega)).call (F := [HP.obj gp 34 [.string p.f0, .string p.f1], HP.row Kd.string 9 (.slice A2 l.length c2) ys]) Hd (fun _ _ _ _ => trivial)).mono ?_; rintro e w6 ⟨v6, rfl, H8⟩; obtain ⟨A6, c6, rfl, hc6, hC6⟩ := St.row_C H8; clear hC6)
            | (go_at_call 15; refine (ref_parts_calls A c l p (by omega) hp hp1 HS.out hc _ (HR.out _ H8.ext)).mono ?_; rintro e w7 ⟨v7, rfl, hr7, hb7⟩; have H9 := H8.made hr7 hb7; obtain ⟨A7, c7, rfl, hc7, hC7⟩ := St.row_C H9; clear hC7 hr7 hb7))
        have hpl := partsTo_le l p (l.length + 1)
        clear hq0 hq1 Hd H8
        generalize partsTo l p (l.length + 1) = xs at H9 hpl hc6 hc7 ⊢
        have H10 : St w S w7 [HP.row k39 39 (.slice A7 xs.length c7) xs, HP.row k39 39 (.slice A6 xs.length c6) xs, Split g l, HP.obj gp 34 [.string p.f0, .string p.f1], HP.row Kd.string 9 (.slice A2 l.length c2) ys] := H9
        clear H9
        go_wp2
        go_loopw [11, 49] (fun v11 i w' => ∃ k : Nat, k ≤ xs.length ∧ i = .int .i64 k ∧ St w S w' [HP.row k39 39 (.slice A7 xs.length c7) xs, HP.row k39 39 (.slice A6 xs.length c6) xs]) (fun _ i _ => xs.length - (intOf i).toNat)
        case atStart => exact ⟨0, Nat.zero_le _, rfl, ((H10.out 2).out 2).out 2⟩
        case round =>
          obtain ⟨k, hkl, rfl, Hr⟩ := hrel
          clear H10
          by_cases hlt : k < xs.length
          · obtain ⟨ad, rfl, hx0, hx1, hx2⟩ := at_T39 (St.row_reads Hr).2.2 k (by omega) (by omega)
            obtain ⟨ad', rfl, hy0, hy1, hy2⟩ := at_T39 (St.row_reads (Hr.mv 1)).2.2 k (by omega) (by omega)
            rw [Int.toNat_natCast] at hx0 hx1 hx2 hy0 hy1 hy2
            generalize rd_T39 xs k = x at hx0 hx1 hx2 hy0 hy1 hy2
            go_wp2
            go_quiet (fail)
            go_wp2
            go_roundw
            case rel => exact ⟨k + 1, by omega, by go_num, Hr.drewN _⟩
            case measure => simp [intOf]; omega
          · go_wp2
            go_ret
            exact ⟨rfl, (Hr.out 0).out 0⟩
  · have hn : newOk l = false := by simpa using hn
    refine HN.mono ?_
    rintro e w3 ⟨v3, rfl, H3⟩
    rw [newPost_no hn] at H3
    obtain ⟨rfl, H6⟩ := St.pure_ H3
    clear H3 HN hn
    go_wp2_with fail
    refine (awake_fun.call (F := [HP.row Kd.string 9 (.slice A2 l.length c2) l, HP.obj gp 34 [.string p.f0, .string p.f1]]) H6 (fun _ _ _ _ => trivial)).mono ?_
    rintro e w5 ⟨rfl, H7⟩
    go_wp2_with fail
    refine (awake_fun.call (F := [HP.row Kd.string 9 (.slice A2 l.length c2) l, HP.obj gp 34 [.string p.f0, .string p.f1]]) H7 (fun _ _ _ _ => trivial)).mono ?_
    rintro e w6 ⟨rfl, H8⟩
    go_wp2
    go_ret
    exact ⟨rfl, (H8.out 0).out 0⟩
end Go.Proofs.Ytobjiamaapcbmaa.Sp
