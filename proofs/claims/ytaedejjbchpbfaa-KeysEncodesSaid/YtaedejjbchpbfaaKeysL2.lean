/- The laws KeysBack, KeysUnder, walked. -/
import Derived.Test.YtaedejjbchpbfaaKeysL1
namespace Go.Proofs.Ytaedejjbchpbfaa.Keys
open Go.RowKit Go.Proofs.YtaedejjbchpbfaaW.PrintWords Go.Proofs.YtaedejjbchpbfaaW.PrintLast Go.Proofs.YtaedejjbchpbfaaW.PrintMore Go.Proofs.Ytaedejjbchpbfaa.Str Go.Proofs.Ytaedejjbchpbfaa.PRef Go.Proofs.Ytaedejjbchpbfaa.Stands Go.Proofs.Ytaedejjbchpbfaa.Sl
set_option linter.unusedVariables false
set_option linter.unusedSimpArgs false
theorem decode_as (s : ByteArray) (hs : s.size ≤ 140737488351232) (l : List V) (e : Int) (h : decode s = (l, e)) :
    Fun Try.prog 13 #[.string s] (fun _ => True) [] (fun v => [HP.ex fun u => HP.and (v = .tuple #[u, .int .i64 e]) (HP.row kV 24 u l)]) := by
  have := decode_fun s hs
  rw [h] at this
  exact this
theorem same_as (a b : List V) (hl : a.length ≤ 140737488355328) (r : Bool) (h : r = decide (a = b)) : lintelref01_Same.f (a.length + 1) a b = some r := by
  rw [h]; exact same_eq a b hl _ (by omega)
set_option maxHeartbeats 1000000 in
theorem keysBack_fun (A0 : Option Addr) (c0 : Nat) (a : List V) (ha : Lst a c0) (s : ByteArray) (hs : s.size ≤ 140737488351232) :
    FunV Try.prog 5 #[.slice A0 a.length c0, .string s] (fun w => Kd.C kV w A0 a.length a) [] (.bool true) [] := by
  intro w S hS hR
  have H := St.start hS
  have HR := Aside0.mk hR
  clear hS hR
  have hu24 := Try.underlying24
  have hu22 := Try.underlying22
  obtain ⟨t, e, he, hec⟩ := encode_code a
  have hba : e = 0 → decode t = (a, 0) ∧ t.size ≤ 1048 := by
    rintro rfl
    exact ⟨decode_encode a ha.nn t he, (encode_good ha.nn he).2.2.2⟩
  go_enter Try.func5, Try.ntmps5
  go_wp2_with fail
  refine (encode_calls A0 c0 a ha.nn ha.cc t _ he w (HR.out _ H.ext)).mono ?_
  rintro x w2 ⟨rfl, hb2⟩
  have H2 := H.later hb2
  clear he hb2 H
  have HX : ∃ wx, wx = w2 := ⟨_, rfl⟩
  have hsame := same_as a a (by have := ha.ll; omega) true (by simp)
  rcases hec with rfl | rfl | rfl
  · obtain ⟨hd, hts⟩ := hba rfl
    clear hba
    go_wp2_with fail
    refine ((decode_as t (by omega) a 0 hd).call (F := []) H2 (fun _ _ _ _ => trivial)).mono ?_
    rintro x w3 ⟨v3, rfl, H3⟩
    obtain ⟨u3, H4⟩ := St.ex_ H3
    obtain ⟨hv3, H5⟩ := St.and_ H4
    subst hv3
    obtain ⟨A3, c3, rfl, hc3, hC3⟩ := St.row_C H5
    clear H3 H4 H2 hd
    go_wp2_with ((go_at_call 12; refine (lintelref01_Same.calls _ A3 c3 a A0 c0 a true w3 hC3 hc3 (HR.out _ H5.ext) ha.cc hsame).mono ?_; rintro x w4 ⟨rfl, ⟨nd, rfl⟩⟩; have H6 := (H5.drewN nd).out 0; clear hC3))
    rcases decode_cases s with ⟨l, hd, hk, hn, hl8⟩ | hd
    · refine ((decode_as s hs l 0 hd).call (F := []) H6 (fun _ _ _ _ => trivial)).mono ?_
      rintro x w5 ⟨v5, rfl, H7⟩
      obtain ⟨u5, H8⟩ := St.ex_ H7
      obtain ⟨hv5, H9⟩ := St.and_ H8
      subst hv5
      obtain ⟨A5, c5, rfl, hc5, hC5⟩ := St.row_C H9
      clear H7 H8 H6 hd H5
      go_wp2_with fail
      refine (encode_calls A5 c5 l hn hc5 s _ hk w5 hC5).mono ?_
      rintro x w6 ⟨rfl, hb6⟩
      have H10 := (H9.later hb6).out 0
      clear hC5 H9 hb6
      go_wp2_with ((go_at_call 11; refine (awake_fun.call (F := []) H10 (fun _ _ _ _ => trivial)).mono ?_; rintro x w7 ⟨rfl, H11⟩))
      go_ret
      exact ⟨by simp, H11⟩
    · refine ((decode_as s hs [] 20 hd).call (F := []) H6 (fun _ _ _ _ => trivial)).mono ?_
      rintro x w5 ⟨v5, rfl, H7⟩
      obtain ⟨u5, H8⟩ := St.ex_ H7
      obtain ⟨hv5, H9⟩ := St.and_ H8
      subst hv5
      obtain ⟨A5, c5, rfl, hc5, hC5⟩ := St.row_C H9
      clear H7 H8 H6 hd H5 hC5
      have H10 := H9.out 0
      clear H9
      go_wp2_with ((go_at_call 11; refine (awake_fun.call (F := []) H10 (fun _ _ _ _ => trivial)).mono ?_; rintro x w7 ⟨rfl, H11⟩))
      go_ret
      exact ⟨rfl, H11⟩
  all_goals
    clear hba
    go_wp2_with fail
    rcases decode_cases s with ⟨l, hd, hk, hn, hl8⟩ | hd
    · refine ((decode_as s hs l 0 hd).call (F := []) H2 (fun _ _ _ _ => trivial)).mono ?_
      rintro x w5 ⟨v5, rfl, H7⟩
      obtain ⟨u5, H8⟩ := St.ex_ H7
      obtain ⟨hv5, H9⟩ := St.and_ H8
      subst hv5
      obtain ⟨A5, c5, rfl, hc5, hC5⟩ := St.row_C H9
      clear H7 H8 H2 hd
      go_wp2_with fail
      refine (encode_calls A5 c5 l hn hc5 s _ hk w5 hC5).mono ?_
      rintro x w6 ⟨rfl, hb6⟩
      have H10 := (H9.later hb6).out 0
      clear hC5 H9 hb6
      go_wp2_with ((go_at_call 11; refine (awake_fun.call (F := []) H10 (fun _ _ _ _ => trivial)).mono ?_; rintro x w7 ⟨rfl, H11⟩))
      go_ret
      exact ⟨by simp, H11⟩
    · refine ((decode_as s hs [] 20 hd).call (F := []) H2 (fun _ _ _ _ => trivial)).mono ?_
      rintro x w5 ⟨v5, rfl, H7⟩
      obtain ⟨u5, H8⟩ := St.ex_ H7
      obtain ⟨hv5, H9⟩ := St.and_ H8
      subst hv5
      obtain ⟨A5, c5, rfl, hc5, hC5⟩ := St.row_C H9
      clear H7 H8 H2 hd hC5
      have H10 := H9.out 0
      clear H9
      go_wp2_with ((go_at_call 11; refine (awake_fun.call (F := []) H10 (fun _ _ _ _ => trivial)).mono ?_; rintro x w7 ⟨rfl, H11⟩))
      go_ret
      exact ⟨rfl, H11⟩
/-- A list's key and another's, under. -/
theorem under_fact {a b : List V} (ha : N64 a) (hb : N64 b) {s t : ByteArray} (h : encode a = (s, 0)) (k : encode b = (t, 0)) :
    (decide (cmpS s t ≤ 0) && decide (cmpS t (s ++ ⟨#[255]⟩) < 0)) = (decide (a.length ≤ b.length) && decide (a = b.take a.length)) := by
  obtain ⟨g1, rfl, _⟩ := encode_good ha h
  obtain ⟨g2, rfl, _⟩ := encode_good hb k
  have e : (⟨(encL a).toArray⟩ : ByteArray) ++ ⟨#[255]⟩ = ⟨(encL a ++ [255]).toArray⟩ := mk_app (encL a) [255]
  rw [e]
  unfold cmpS
  rw [mk_toList, mk_toList, mk_toList, ← Bool.decide_and, ← Bool.decide_and, decide_eq_decide, encL_under a b g1 g2]
  constructor
  · rintro ⟨c, rfl⟩
    exact ⟨by simp, by simp⟩
  · rintro ⟨h1, h2⟩
    exact ⟨b.drop a.length, by conv => lhs; rw [← List.take_append_drop a.length b, ← h2]⟩
attribute [local go_sem] max2_int min2_int max_two min_two
set_option maxHeartbeats 1000000 in
theorem keysUnder_fun (A0 : Option Addr) (c0 : Nat) (a : List V) (ha : Lst a c0) (A1 : Option Addr) (c1 : Nat) (b : List V) (hb : Lst b c1) :
    FunV Try.prog 8 #[.slice A0 a.length c0, .slice A1 b.length c1] (fun w => Kd.C kV w A0 a.length a ∧ Kd.C kV w A1 b.length b) [] (.bool true) [] := by
  intro w S hS hR
  have H := St.start hS
  have HR := Aside0.mk hR
  clear hS hR
  have hu24 := Try.underlying24
  have hu22 := Try.underlying22
  have hu44 := Try.underlying44
  obtain ⟨s, e, he, hec⟩ := encode_code a
  obtain ⟨t, f, hf, hfc⟩ := encode_code b
  have hun : e = 0 → f = 0 → (decide (cmpS s t ≤ 0) && decide (cmpS t (s ++ ⟨#[255]⟩) < 0)) = (decide (a.length ≤ b.length) && decide (a = b.take a.length)) ∧ s.size ≤ 1048 ∧ t.size ≤ 1048 := by
    rintro rfl rfl
    exact ⟨under_fact ha.nn hb.nn he hf, (encode_good ha.nn he).2.2.2, (encode_good hb.nn hf).2.2.2⟩
  go_enter Try.func8, Try.ntmps8
  go_wp2_with fail
  refine (encode_calls A0 c0 a ha.nn ha.cc s _ he w (HR.out _ H.ext).1).mono ?_
  rintro x w2 ⟨rfl, hb2⟩
  have H2 := H.later hb2
  go_wp2_with fail
  refine (encode_calls A1 c1 b hb.nn hb.cc t _ hf w2 (HR.out _ H2.ext).2).mono ?_
  rintro x w3 ⟨rfl, hb3⟩
  have H3 := H2.later hb3
  clear he hf H H2 hb2 hb3
  go_wp2_with fail
  refine (awake_fun.call (F := []) H3 (fun _ _ _ _ => trivial)).mono ?_
  rintro x w4 ⟨rfl, H4⟩
  clear H3
  rcases hec with rfl | rfl | rfl
  · rcases hfc with rfl | rfl | rfl
    · obtain ⟨hun, hss, hts⟩ := hun rfl rfl
      have hin := in_eq t s (s ++ ⟨#[255]⟩) (by omega) (by omega) _ (Nat.le_refl _)
      have hus : keys_Under.f s = some (s, s ++ ⟨#[255]⟩) := if_pos (by omega)
      have hll := ha.ll
      have hlb := hb.ll
      rw [hun] at hin
      clear hun
      by_cases hab : a.length ≤ b.length
      · have hab' : (a.length : Int) ≤ (b.length : Int) := by omega
        have htl : (b.take a.length).length = a.length := by rw [List.length_take]; omega
        rw [decide_eq_true hab, Bool.true_and] at hin
        have hsame := same_as a (b.take a.length) (by omega) _ rfl
        have hct : a.length ≤ c1 := by have := hb.cc; omega
        have hcc := hb.cc
        go_wp2_with fail
        have hR4 := HR.out _ H4.ext
        have hCt := Kd.C_take hR4.2 (m := a.length) hab
        have hs := lintelref01_Same.calls _ A0 c0 a A1 c1 (b.take a.length) _ w4 hR4.1 ha.cc hCt (by rw [htl]; exact hct) hsame
        rw [htl] at hs
        refine hs.mono ?_
        rintro x w5 ⟨rfl, ⟨nd, rfl⟩⟩
        have H5 := H4.drewN nd
        clear hs hsame hR4 hCt H4
        generalize decide (a = b.take a.length) = r at hin ⊢
        go_wp2_with (first
          | (go_at_call 18; refine (keys_Under.calls s _ _ _ hus).mono ?_; rintro x w6 ⟨rfl, hb6⟩; have H6 := H5.later hb6)
          | (go_at_call 17; refine (lintelref02_In.calls _ t s _ r w6 hin).mono ?_; rintro x w7 ⟨rfl, hb7⟩; have H7 := H6.later hb7))
        go_ret
        exact ⟨by simp, H7⟩
      · have hab' : ¬ (a.length : Int) ≤ (b.length : Int) := by omega
        rw [decide_eq_false hab, Bool.false_and] at hin
        go_wp2_with (first
          | (go_at_call 18; refine (keys_Under.calls s _ _ _ hus).mono ?_; rintro x w6 ⟨rfl, hb6⟩; have H6 := H4.later hb6)
          | (go_at_call 17; refine (lintelref02_In.calls _ t s _ false w6 hin).mono ?_; rintro x w7 ⟨rfl, hb7⟩; have H7 := H6.later hb7))
        go_ret
        exact ⟨by simp, H7⟩
    all_goals
      clear hun
      go_wp2_with fail
      refine (awake_fun.call (F := []) H4 (fun _ _ _ _ => trivial)).mono ?_
      rintro x w5 ⟨rfl, H5⟩
      go_wp2
      go_ret
      exact ⟨rfl, H5⟩
  all_goals
    clear hun hfc
    go_wp2_with fail
    refine (awake_fun.call (F := []) H4 (fun _ _ _ _ => trivial)).mono ?_
    rintro x w5 ⟨rfl, H5⟩
    go_wp2
    go_ret
    exact ⟨rfl, H5⟩
end Go.Proofs.Ytaedejjbchpbfaa.Keys
