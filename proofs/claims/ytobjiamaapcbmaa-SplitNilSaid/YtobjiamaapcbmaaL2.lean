import Derived.Test.YtobjiamaapcbmaaPu2
namespace Go.Proofs.Ytobjiamaapcbmaa.Sp
open Go.RowKit Go.Proofs.YtobjiamaapcbmaaW.PrintWords Go.Proofs.YtobjiamaapcbmaaW.PrintLast Go.Proofs.YtobjiamaapcbmaaW.PrintMore Go.Proofs.Ytobjiamaapcbmaa.Sl PRef Str
set_option linter.unusedVariables false
set_option linter.unusedSimpArgs false
set_option maxHeartbeats 1000000 in
theorem splitFinds_fun (A : Option Addr) (c : Nat) (l : List ByteArray) (key : ByteArray) (hk : Sm key) (hl : l.length * 16 ≤ 140737488355328) (hc : l.length ≤ c) :
    FunV Try.prog 4 #[.slice A l.length c, .string key] (fun w => Kd.C Kd.string w A l.length l) [] (.bool true) [] := by
  intro w S hS hR
  have H := St.start hS
  have HR := Aside0.mk hR
  clear hS hR
  have hu22 := Try.underlying22
  go_enter Try.func4, Try.ntmps4
  go_wp2_with (first
    | ((with_reducible refine gate_dst (N := 10) rfl ?_); refine ev_lit Kd.string 9 ?hg (N := 10) ?hd (xs := ([] : List ByteArray)) (inner := []) H ?hr ?hp (by simp) ?_; (case hd => rfl); (case hg => rfl); (case hr => first | (go_simp; done) | (go_simp; rfl)); (case hp => exact Reps.none _ _); intro v1 w1 H1)
    | ((with_reducible refine gate_dst (N := 12) rfl ?_); at_builtin; refine ev_rows Kd.string flat_string rfl (.tmp 10) (.tmp 11) 22 9 _ 16 rfl Try.underlying22 info9 rfl (by decide) (by omega) v1 [] l A c rfl rfl H1 ?hc ?hl ?_; (case hc => exact HR.out _ H1.ext); (case hl => simp; omega); intro v2 w2 H2; rw [List.nil_append] at H2; obtain ⟨A2, c2, rfl, hc2, hC2⟩ := St.row_C H2; clear hC2))
  have HN := (new_fun A2 c2 l hl).call (F := [HP.row Kd.string 9 (.slice A2 l.length c2) l]) H2 (fun w' _ _ hf => row_rd hf)
  clear H H1 H2
  by_cases hn : newOk l = true
  · refine HN.mono ?_
    rintro e w3 ⟨v3, rfl, H3⟩
    rw [newPost_yes hn] at H3
    obtain ⟨g, H4⟩ := St.ex_ H3
    obtain ⟨rfl, H5⟩ := St.and_ H4
    have H6 : St w S w3 [Split g l] := St.out H5 1
    clear H3 H4 H5 HN
    have hl4 : l.length < 4 := by
      unfold newOk at hn
      simp at hn
      exact hn.1
    have hok : Aside0 (okB ByteArray.empty l = true) := ⟨by unfold newOk at hn; simp at hn; exact hn.2⟩
    clear hn
    have hcl := cnt_le key l
    go_wp2_with ((go_at_call 10; refine (awake_fun.call (F := [Split g l]) H6 (fun _ _ _ _ => trivial)).mono ?_; rintro e w5 ⟨rfl, H7⟩))
    go_loopw [7, 26] (fun n i w' => ∃ k : Nat, k ≤ l.length + 1 ∧ i = .int .i64 k ∧ n = .int .i64 (if cnt key l < k then 1 else 0) ∧ St w S w' [Split g l]) (fun _ i _ => l.length + 1 - (intOf i).toNat)
    case atStart => exact ⟨0, Nat.zero_le _, rfl, rfl, H7⟩
    case round =>
      obtain ⟨k, hkl, rfl, rfl, Hr⟩ := hrel
      by_cases hlt : k < l.length + 1
      · have hlt' : ((k : Int) < (l.length : Int) + 1) := by omega
        have hh := hasB_iff l key hok.out k (by omega)
        by_cases hkc : k = cnt key l
        · rw [decide_eq_true hkc] at hh
          have HH := Aside0.mk hh
          have HK := Aside0.mk hkc
          rw [if_neg (by omega)]
          clear hh hkc H6 H7
          go_wp2_with (first
            | (go_at_call 12; refine (has_calls A c l k key hk (by omega) (by omega) hc _ (HR.out _ Hr.ext)).mono ?_; rintro e w6 ⟨rfl, ⟨nd, rfl⟩⟩; rw [HH.out])
            | (go_at_call 13; refine ((find_fun g l key (by omega)).call (F := []) (Hr.drewN nd) (fun _ _ _ _ => trivial)).mono ?_; rintro e w7 ⟨rfl, H8⟩; rw [← HK.out]))
          go_roundw
          case rel => exact ⟨k + 1, by omega, by go_num, by rw [if_pos (by have := HK.out; omega)], H8⟩
          case measure => simp [intOf]; omega
        · rw [decide_eq_false hkc] at hh
          have HH := Aside0.mk hh
          have hkc' : (if cnt key l < k + 1 then (1 : Int) else 0) = (if cnt key l < k then 1 else 0) := by
            by_cases h : cnt key l < k
            · rw [if_pos h, if_pos (by omega)]
            · rw [if_neg h, if_neg (by omega)]
          have HK := Aside0.mk hkc'
          generalize (if cnt key l < k then (1 : Int) else 0) = n0 at HK
          clear hh hkc hkc' H6 H7
          go_wp2_with ((go_at_call 12; refine (has_calls A c l k key hk (by omega) (by omega) hc _ (HR.out _ Hr.ext)).mono ?_; rintro e w6 ⟨rfl, ⟨nd, rfl⟩⟩; rw [HH.out]))
          go_roundw
          case rel => exact ⟨k + 1, by omega, by go_num, by rw [HK.out], Hr.drewN nd⟩
          case measure => simp [intOf]; omega
      · rw [if_pos (by omega)]
        obtain rfl : k = l.length + 1 := by omega
        go_wp2
        go_ret
        exact ⟨rfl, Hr.out 0⟩
  · have hn : newOk l = false := by simpa using hn
    refine HN.mono ?_
    rintro e w3 ⟨v3, rfl, H3⟩
    rw [newPost_no hn] at H3
    obtain ⟨rfl, H6⟩ := St.pure_ H3
    clear H3 HN hn
    go_wp2_with fail
    refine (awake_fun.call (F := [HP.row Kd.string 9 (.slice A2 l.length c2) l]) H6 (fun _ _ _ _ => trivial)).mono ?_
    rintro e w5 ⟨rfl, H7⟩
    go_wp2_with fail
    refine (awake_fun.call (F := [HP.row Kd.string 9 (.slice A2 l.length c2) l]) H7 (fun _ _ _ _ => trivial)).mono ?_
    rintro e w6 ⟨rfl, H8⟩
    go_wp2
    go_ret
    exact ⟨rfl, H8.out 0⟩
end Go.Proofs.Ytobjiamaapcbmaa.Sp
