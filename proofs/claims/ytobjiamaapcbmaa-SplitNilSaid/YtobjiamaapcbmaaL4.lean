import Derived.Test.YtobjiamaapcbmaaPu3
namespace Go.Proofs.Ytobjiamaapcbmaa.Sp
open Go.RowKit Go.Proofs.YtobjiamaapcbmaaW.PrintWords Go.Proofs.YtobjiamaapcbmaaW.PrintLast Go.Proofs.YtobjiamaapcbmaaW.PrintMore Go.Proofs.Ytobjiamaapcbmaa.Sl PRef Str
set_option linter.unusedVariables false
set_option linter.unusedSimpArgs false
theorem take_one39 (l : List S39) (k : Nat) (h : k < l.length) : l.take (k + 1) = l.take k ++ [rd_T39 l k] := take_one z39 l k h
theorem parts_size (l : List ByteArray) (p : S34) (h0 : Sm p.f0) (hs : ∀ b ∈ l, Sm b) : ∀ k, ∀ x ∈ partsTo l p k, Sm x.f1.f0
  | 0, x, hx => by simp [partsTo] at hx
  | k + 1, x, hx => by
    simp only [partsTo, List.mem_append] at hx
    rcases hx with hx | hx
    · exact parts_size l p h0 hs k x hx
    · split at hx
      · simp only [List.mem_singleton] at hx
        subst hx
        show Sm (if 0 < k then Lib.maxS p.f0 (l.getD (k - 1) ByteArray.empty) else p.f0)
        split
        · rw [maxS_cmp]
          split
          · rcases Nat.lt_or_ge (k - 1) l.length with h | h
            · exact hs _ (getD_mem l _ h)
            · rw [List.getD_eq_getElem?_getD, List.getElem?_eq_none h]; exact Nat.zero_le _
          · exact h0
        · exact h0
      · cases hx
theorem rd39_mem (l : List S39) (k : Nat) (h : k < l.length) : rd_T39 l k ∈ l := by
  show l.getD k z39 ∈ l
  rw [List.getD_eq_getElem?_getD, List.getElem?_eq_getElem h]
  exact List.getElem_mem h
theorem find_at (g : Nat) (l : List ByteArray) (key : ByteArray) (hl : l.length ≤ 1000) {w0 w : World} {S0 : Nat → Prop} {F : List HP} (H : St w0 S0 w (Split g l :: F)) :
    Calls Try.prog 13 #[.pointer (some ⟨g, 0, none⟩), .string key] w fun e w' => e = .returned (.int .i64 (cnt key l)) ∧ w' = w := by
  obtain ⟨v, H⟩ := H.ex_
  have H := H.star_
  obtain ⟨A, c, rfl, hc, hC⟩ := St.row_C (H.mv 1)
  exact find_some w ⟨g, 0, none⟩ A c l key (by omega) (H.cell 0) hC
set_option maxHeartbeats 2000000 in
theorem splitCovers_fun (A : Option Addr) (c : Nat) (l : List ByteArray) (p : S34) (key : ByteArray) (hk : Sm key) (hp : Sm p.f0) (hs : ∀ b ∈ l, Sm b) (hl : l.length * 16 ≤ 140737488355328) (hc : l.length ≤ c) :
    FunV Try.prog 6 #[.slice A l.length c, .agg #[.string p.f0, .string p.f1], .string key] (fun w => Kd.C Kd.string w A l.length l) [] (.bool true) [] := by
  intro w S hS hR
  have H := St.start hS
  have HR := Aside0.mk hR
  have HS := Aside0.mk hs
  clear hS hR hs
  have hu22 := Try.underlying22
  have hu34 := Try.underlying34
  have hu39 := Try.underlying39
  go_enter Try.func6, Try.ntmps6
  go_wp2_with (first
    | ((with_reducible refine gate_dst (N := 4) rfl ?_); refine ev_box ?hg (N := 4) ?hd (cs := [.string p.f0, .string p.f1]) (t := 34) H ?hr ?_; (case hd => rfl); (case hg => rfl); (case hr => first | (go_simp; done) | (go_simp; rfl)); intro gp w0 H0 hgp)
    | ((with_reducible refine gate_dst (N := 13) rfl ?_); refine ev_lit Kd.string 9 ?hg (N := 13) ?hd (xs := ([] : List ByteArray)) (inner := []) H0 ?hr ?hp (by simp) ?_; (case hd => rfl); (case hg => rfl); (case hr => first | (go_simp; done) | (go_simp; rfl)); (case hp => exact Reps.none _ _); intro v1 w1 H1)
    | ((with_reducible refine gate_dst (N := 15) rfl ?_); at_builtin; refine ev_rows Kd.string flat_string rfl (.tmp 13) (.tmp 14) 22 9 _ 16 rfl Try.underlying22 info9 rfl (by decide) (by omega) v1 [] l A c rfl rfl H1 ?hc ?hl ?_; (case hc => exact HR.out _ H1.ext); (case hl => simp; omega); intro v2 w2 H2; rw [List.nil_append] at H2; obtain ⟨A2, c2, rfl, hc2, hC2⟩ := St.row_C H2; clear hC2))
  have HN := (new_fun A2 c2 l hl).call (F := [HP.row Kd.string 9 (.slice A2 l.length c2) l, HP.obj gp 34 [.string p.f0, .string p.f1]]) H2 (fun w' _ _ hf => row_rd hf)
  clear H H0 H1 H2
  by_cases hn : newOk l = true
  · refine HN.mono ?_
    rintro e w3 ⟨v3, rfl, H3⟩
    rw [newPost_yes hn] at H3
    obtain ⟨g, H4⟩ := St.ex_ H3
    obtain ⟨rfl, H5⟩ := St.and_ H4
    have H6 : St w S w3 [Split g l, HP.obj gp 34 [.string p.f0, .string p.f1]] := St.out H5 1
    clear H3 H4 H5 HN
    have hl4 : l.length < 4 := by
      unfold newOk at hn
      simp at hn
      exact hn.1
    have hok : Aside0 (okB ByteArray.empty l = true) := ⟨by unfold newOk at hn; simp at hn; exact hn.2⟩
    clear hn
    have hcl := cnt_le key l
    go_wp2_with fail
    refine (awake_fun.call (F := [Split g l, HP.obj gp 34 [.string p.f0, .string p.f1]]) H6 (fun _ _ _ _ => trivial)).mono ?_
    rintro e w5 ⟨rfl, H7⟩
    have H7 : St w S w5 [Split g l, HP.obj gp 34 [.string p.f0, .string p.f1]] := H7
    have hp0 : w5.cell? ⟨gp, 0, none⟩ = some (.string p.f0) := (H7.mv 1).cell 0
    have hp1 : w5.cell? ⟨gp, 1, none⟩ = some (.string p.f1) := (H7.mv 1).cell 1
    go_wp2_with ((go_at_call 14; refine ((parts_fun g l p (by omega)).call (F := [HP.obj gp 34 [.string p.f0, .string p.f1]]) H7 (fun _ _ _ _ => trivial)).mono ?_; rintro e w6 ⟨v6, rfl, H8⟩; obtain ⟨A6, c6, rfl, hc6, hC6⟩ := St.row_C H8; clear hC6))
    have hpl := partsTo_le l p (l.length + 1)
    have hmem := Aside0.mk (parts_mem l p key hok.out (l.length + 1) (Nat.le_refl _))
    have hsz := Aside0.mk (parts_size l p hp HS.out (l.length + 1))
    have hwc := Aside0.mk (parts_wc l p key hok.out (l.length + 1) (Nat.le_refl _))
    clear hp0 hp1 H6 H7
    generalize partsTo l p (l.length + 1) = xs at H8 hpl hmem hsz hwc hc6 ⊢
    have H9 : St w S w6 [HP.row k39 39 (.slice A6 xs.length c6) xs, Split g l, HP.obj gp 34 [.string p.f0, .string p.f1]] := H8
    clear H8
    go_loopw [9, 30] (fun n i w' => ∃ k : Nat, k ≤ xs.length ∧ i = .int .i64 k ∧ n = .int .i64 (wc key (xs.take k)) ∧ St w S w' [HP.row k39 39 (.slice A6 xs.length c6) xs, Split g l, HP.obj gp 34 [.string p.f0, .string p.f1]]) (fun _ i _ => xs.length - (intOf i).toNat)
    case atStart => exact ⟨0, Nat.zero_le _, rfl, rfl, H9⟩
    case round =>
      obtain ⟨k, hkl, rfl, rfl, Hr⟩ := hrel
      clear H9
      by_cases hlt : k < xs.length
      · obtain ⟨ad, rfl, hx0, hx1, hx2⟩ := at_T39 (St.row_reads Hr).2.2 k (by omega) (by omega)
        rw [Int.toNat_natCast] at hx0 hx1 hx2
        have hm := rd39_mem xs k hlt
        have hf := Aside0.mk (hmem.out _ hm)
        have hz := Aside0.mk (hsz.out _ hm)
        have ht := Aside0.mk (congrArg (wc key) (take_one39 xs k hlt))
        rw [wc_snoc] at ht
        have hwl := wc_le key (xs.take k)
        have hwl2 : (xs.take k).length ≤ k := List.length_take_le _ _
        clear hm
        generalize rd_T39 xs k = x at hx0 hx1 hx2 hf hz ht
        by_cases hw : wn key x.f1 = true
        · have HW := Aside0.mk hw
          have hf' := hf.out hw
          rw [if_pos hw] at ht
          clear hw
          have HF := Aside0.mk hf'
          clear hf'
          go_wp2_with fail
          have H10 := Hr.alloc (Obj.cells #[.int .i64 x.f0, .string x.f1.f0, .string x.f1.f1] 39)
          generalize wr.alloc (Obj.cells #[.int .i64 x.f0, .string x.f1.f0, .string x.f1.f1] 39) = W at H10 ⊢
          generalize wr.heap.size = gx at H10 ⊢
          clear hx0 hx1 hx2 Hr
          refine (within_calls key x.f1 hk hz.out W).mono ?_
          rintro e w7 ⟨rfl, hb⟩
          have H11 := H10.later hb
          clear H10 hb
          rw [HW.out]
          have hx0 : w7.cell? ⟨gx, 0, none⟩ = some (.int .i64 x.f0) := H11.cell (cs := [.int .i64 x.f0, .string x.f1.f0, .string x.f1.f1]) 0
          go_wp2
          go_quiet ((go_at_call 13; exact Calls.quiet_of_same (find_at g l key (by omega) ((H11.mv 2).drewN _))))
          rw [HF.out]
          go_wp2
          go_roundw
          case rel => exact ⟨k + 1, by omega, by go_num, by rw [ht.out]; go_num, (H11.drewN _).out 0⟩
          case measure => simp [intOf]; omega
        · rw [if_neg hw] at ht
          have hw : wn key x.f1 = false := by simpa using hw
          have HW := Aside0.mk hw
          clear hw
          go_wp2_with fail
          have H10 := Hr.alloc (Obj.cells #[.int .i64 x.f0, .string x.f1.f0, .string x.f1.f1] 39)
          generalize wr.alloc (Obj.cells #[.int .i64 x.f0, .string x.f1.f0, .string x.f1.f1] 39) = W at H10 ⊢
          generalize wr.heap.size = gx at H10 ⊢
          clear hx0 hx1 hx2 Hr
          refine (within_calls key x.f1 hk hz.out W).mono ?_
          rintro e w7 ⟨rfl, hb⟩
          have H11 := H10.later hb
          clear H10 hb
          rw [HW.out]
          go_wp2
          go_roundw
          case rel => exact ⟨k + 1, by omega, by go_num, by rw [ht.out]; go_num, H11.out 0⟩
          case measure => simp [intOf]; omega
      · obtain rfl : k = xs.length := by omega
        rw [List.take_length, hwc.out]
        have hp0 : wr.cell? ⟨gp, 0, none⟩ = some (.string p.f0) := (Hr.mv 2).cell 0
        have hp1 : wr.cell? ⟨gp, 1, none⟩ = some (.string p.f1) := (Hr.mv 2).cell 1
        have hWc := within_calls key p hk hp wr
        by_cases hw : wn key p = true
        · rw [if_pos ⟨hw, by omega⟩]
          rw [hw] at hWc
          have HWC := Aside0.mk hWc
          clear hWc hw
          go_wp2_with ((go_at_call 16; refine HWC.out.mono ?_; rintro e w7 ⟨rfl, hb⟩))
          go_ret
          exact ⟨rfl, (((Hr.later hb).out 0).out 0).out 0⟩
        · rw [if_neg (fun h => hw h.1)]
          have hw : wn key p = false := by simpa using hw
          rw [hw] at hWc
          have HWC := Aside0.mk hWc
          clear hWc hw
          go_wp2_with ((go_at_call 16; refine HWC.out.mono ?_; rintro e w7 ⟨rfl, hb⟩))
          go_ret
          exact ⟨rfl, (((Hr.later hb).out 0).out 0).out 0⟩
  · have hn : newOk l = false := by simpa using hn
    refine HN.mono ?_
    rintro e w3 ⟨v3, rfl, H3⟩
    rw [newPost_no hn] at H3
    obtain ⟨rfl, H6⟩ := St.pure_ H3
    clear H3 HN hn
    go_wp2_with fail
    refine (awake_fun.call (F := [HP.row Kd.string 9 (.slice A2 l.length c2) l, HP.obj gp 34 [.string p.f0, .string p.f1]]) H6 (fun _ _ _ _ => trivial)).mono ?_
    rintro e w5 ⟨rfl, H7⟩
    go_wp2_with fail
    refine (awake_fun.call (F := [HP.row Kd.string 9 (.slice A2 l.length c2) l, HP.obj gp 34 [.string p.f0, .string p.f1]]) H7 (fun _ _ _ _ => trivial)).mono ?_
    rintro e w6 ⟨rfl, H8⟩
    go_wp2
    go_ret
    exact ⟨rfl, (H8.out 0).out 0⟩
end Go.Proofs.Ytobjiamaapcbmaa.Sp
