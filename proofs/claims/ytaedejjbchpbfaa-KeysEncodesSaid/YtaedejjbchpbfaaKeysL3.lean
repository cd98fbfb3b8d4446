/- The law KeysDecodes, walked. -/
import Derived.Test.YtaedejjbchpbfaaKeysL2
namespace Go.Proofs.Ytaedejjbchpbfaa.Keys
open Go.RowKit Go.Proofs.YtaedejjbchpbfaaW.PrintWords Go.Proofs.YtaedejjbchpbfaaW.PrintLast Go.Proofs.YtaedejjbchpbfaaW.PrintMore Go.Proofs.Ytaedejjbchpbfaa.Str Go.Proofs.Ytaedejjbchpbfaa.PRef Go.Proofs.Ytaedejjbchpbfaa.Stands Go.Proofs.Ytaedejjbchpbfaa.Sl
set_option linter.unusedVariables false
set_option linter.unusedSimpArgs false
/-- A row's block, its cells whatever they are. -/
theorem row_block {w0 w : World} {S0 : Nat → Prop} {F : List HP} {g n cap : Nat} {xs : List V} (h : St w0 S0 w (HP.row kV 24 (.slice (some ⟨g, 0, none⟩) n cap) xs :: F)) (hp : 0 < xs.length) :
    ∃ cs : List Value, 3 * xs.length ≤ cs.length ∧ St w0 S0 w (HP.obj g 24 cs :: F) := by
  have hC := (St.row_reads h).2.2
  obtain ⟨ext, S, ⟨S1, S2, a, b, d, s1, s2⟩, s⟩ := h
  obtain ⟨g', cap', e, _, _, cells, hcell⟩ := Kd.R_form a hp
  simp only [Value.slice.injEq, Option.some.injEq, Addr.mk.injEq] at e
  obtain ⟨⟨rfl, _⟩, _, _⟩ := e
  obtain ⟨ad, ead, _, _, h2⟩ := at_T24 hC ((xs.length - 1 : Nat) : Int) (by omega) (by omega)
  obtain rfl : ad = ⟨g, 0, none⟩ := (Option.some.inj ead).symm
  refine ⟨cells.toList, ?_, ext, S, ⟨S1, S2, ⟨by rw [Array.toArray_toList]; exact hcell, a.1 g rfl⟩, b, d, s1, s2⟩, s⟩
  have h3 : w.cell? ⟨g, 3 * (xs.length - 1) + 2, none⟩ = some (.string (rd_T24 xs ((xs.length - 1 : Nat) : Int)).f2) := by
    have hadd : ∀ m : Nat, (⟨g, 0, none⟩ : Addr).add m = ⟨g, m, none⟩ := fun m => by
      unfold Addr.add
      split <;> simp_all
    rw [hadd, Int.toNat_natCast, Nat.mul_comm] at h2
    exact h2
  simp only [World.cell?, hcell] at h3
  have h4 : 3 * (xs.length - 1) + 2 < cells.size := by
    rcases Nat.lt_or_ge (3 * (xs.length - 1) + 2) cells.size with h | h
    · exact h
    · simp [Array.getElem?_eq_none h] at h3
  have h5 : cells.toList.length = cells.size := Array.length_toList
  omega
theorem decode_codes (s : ByteArray) : ∃ l e, decode s = (l, e) ∧ (e = 0 ∨ e = 20) ∧ l.length ≤ 8 := by
  rcases decode_cases s with ⟨l, h, _, _, h8⟩ | h
  · exact ⟨l, 0, h, .inl rfl, h8⟩
  · exact ⟨[], 20, h, .inr rfl, by simp⟩
set_option maxHeartbeats 1000000 in
theorem keysDecodes_fun (s : ByteArray) (hs : s.size ≤ 140737488351232) : FunV Try.prog 4 #[.string s] (fun _ => True) [] (.bool true) [] := by
  intro w S hS hR
  have H := St.start hS
  clear hS hR
  have hu24 := Try.underlying24
  have hu22 := Try.underlying22
  obtain ⟨l, e, hd, hec, h8⟩ := decode_codes s
  have hrd := ref_decode_eq s hs _ (Nat.le_refl _)
  rw [hd] at hrd
  have hsame := same_as l l (by omega) true (by simp)
  go_enter Try.func4, Try.ntmps4
  go_wp2_with fail
  refine ((decode_as s hs l e hd).call (F := []) H (fun _ _ _ _ => trivial)).mono ?_
  rintro x w1 ⟨v1, rfl, H1⟩
  obtain ⟨u1, H1a⟩ := St.ex_ H1
  obtain ⟨hv1, H1b⟩ := St.and_ H1a
  subst hv1
  obtain ⟨A1, c1, rfl, hc1, hC1⟩ := St.row_C H1b
  clear H H1 H1a
  go_wp2_with fail
  refine (lintelref02_Decode.calls _ s l e w1 hrd).mono ?_
  rintro x w2 ⟨u2, rfl, hR2, hb2⟩
  have H2 := H1b.made hR2 hb2
  obtain ⟨A2, c2, rfl, hc2, hC2⟩ := St.row_C H2
  clear hR2 hC1 hC2 H1b hrd
  go_wp2_with fail
  refine ((decode_as s hs l e hd).call (F := [HP.row kV 24 (.slice A2 l.length c2) l, HP.row kV 24 (.slice A1 l.length c1) l]) H2 (fun _ _ _ _ => trivial)).mono ?_
  rintro x w3 ⟨v3, rfl, H3⟩
  obtain ⟨u3, H3a⟩ := St.ex_ H3
  obtain ⟨hv3, H3b⟩ := St.and_ H3a
  subst hv3
  obtain ⟨A3, c3, rfl, hc3, hC3⟩ := St.row_C H3b
  have H4 : St w S w3 [HP.row kV 24 (.slice A3 l.length c3) l, HP.row kV 24 (.slice A2 l.length c2) l, HP.row kV 24 (.slice A1 l.length c1) l] := H3b
  clear H3 H3a H3b H2 hC3 hd hb2
  go_wp2_with fail
  refine (awake_fun.call (F := [HP.row kV 24 (.slice A3 l.length c3) l, HP.row kV 24 (.slice A2 l.length c2) l, HP.row kV 24 (.slice A1 l.length c1) l]) H4 (fun _ _ _ _ => trivial)).mono ?_
  rintro x w4 ⟨rfl, H5⟩
  clear H4
  go_wp2_with fail
  refine (lintelref01_Same.calls _ A1 c1 l A2 c2 l true w4 (St.row_reads (H5.mv 2)).2.2 hc1 (St.row_reads (H5.mv 1)).2.2 hc2 hsame).mono ?_
  rintro x w5 ⟨rfl, ⟨nd, rfl⟩⟩
  have H6 : St w S (w4.drewN nd) [HP.row kV 24 (.slice A3 l.length c3) l, HP.row kV 24 (.slice A2 l.length c2) l, HP.row kV 24 (.slice A1 l.length c1) l] := H5.drewN nd
  clear H5
  generalize w4.drewN nd = w5 at H6 ⊢
  have HF : ∀ (wf : World) (G : HP), St w S wf [G, HP.row kV 24 (.slice A3 l.length c3) l, HP.row kV 24 (.slice A2 l.length c2) l] →
      Calls Try.prog 12 #[.slice A3 l.length c3, .slice A2 l.length c2] wf fun e w' => e = .returned (.bool true) ∧ St w S w' [] := by
    intro wf G hf
    refine (lintelref01_Same.calls _ A3 c3 l A2 c2 l true wf (St.row_reads (hf.mv 1)).2.2 hc3 (St.row_reads (hf.mv 2)).2.2 hc2 hsame).mono ?_
    rintro x w5 ⟨rfl, ⟨nd, rfl⟩⟩
    exact ⟨rfl, (((hf.drewN nd).out 0).out 0).out 0⟩
  rcases hec with rfl | rfl
  all_goals
    go_wp2_with fail
    by_cases h0 : 0 < l.length
    · obtain ⟨g, cap, ev⟩ := St.row_form (H6.mv 2) h0
      simp only [Value.slice.injEq] at ev
      obtain ⟨rfl, _, rfl⟩ := ev
      obtain ⟨cs, hcs, H7⟩ := row_block (H6.mv 2) h0
      clear H6
      go_loopw [40] (fun i w' => ∃ (k : Nat) (cs : List Value), k ≤ l.length ∧ i = .int .i64 k ∧ Aside0 (3 * l.length ≤ cs.length) ∧ St w S w' [HP.obj g 24 cs, HP.row kV 24 (.slice A3 l.length c3) l, HP.row kV 24 (.slice A2 l.length c2) l]) (fun i _ => l.length - (intOf i).toNat)
      case atStart => exact ⟨0, cs, Nat.zero_le _, rfl, ⟨hcs⟩, H7⟩
      case round =>
        clear hcs H7
        obtain ⟨k, cs, hk, rfl, HC, Hr⟩ := hrel
        by_cases hlt : k < l.length
        · have hq : ∀ j, j < cs.length → ∃ u, wr.cell? ⟨g, j, none⟩ = some u := fun j hj => ⟨cs[j], (Hr.cell j).trans (List.getElem?_eq_getElem hj)⟩
          have hcs := HC.out
          obtain ⟨q0, hq0⟩ := hq (k * 3) (by omega)
          obtain ⟨q1, hq1⟩ := hq (k * 3 + 1) (by omega)
          obtain ⟨q2, hq2⟩ := hq (k * 3 + 2) (by omega)
          have hf0 := Hr.unfrozen (k * 3)
          have hf1 := Hr.unfrozen (k * 3 + 1)
          have hf2 := Hr.unfrozen (k * 3 + 2)
          clear hq hcs
          go_wp2
          go_roundw
          case rel => exact ⟨k + 1, _, by omega, by go_num, ⟨by simp only [List.length_set]; exact HC.out⟩, ((Hr.set (k * 3) (.int .i64 0)).set (k * 3 + 1) (.int .i64 9)).set (k * 3 + 2) (.string ⟨#[]⟩)⟩
          case measure => simp [intOf]; omega
        · go_wp2_with fail
          refine (HF wr _ Hr).mono ?_
          rintro x w6 ⟨rfl, H8⟩
          go_wp2
          go_ret
          exact ⟨rfl, H8⟩
    · have hl0 : l.length = 0 := by omega
      go_loopw [40] (fun i w' => i = .int .i64 0 ∧ St w S w' [HP.row kV 24 (.slice A1 l.length c1) l, HP.row kV 24 (.slice A3 l.length c3) l, HP.row kV 24 (.slice A2 l.length c2) l]) (fun _ _ => 0)
      case atStart => exact ⟨rfl, H6.mv 2⟩
      case round =>
        obtain ⟨rfl, Hr⟩ := hrel
        have hlt : ¬ ((0 : Int) < (l.length : Int)) := by omega
        clear hl0
        go_wp2_with fail
        refine (HF wr _ Hr).mono ?_
        rintro x w6 ⟨rfl, H8⟩
        go_wp2
        go_ret
        exact ⟨rfl, H8⟩
end Go.Proofs.Ytaedejjbchpbfaa.Keys
