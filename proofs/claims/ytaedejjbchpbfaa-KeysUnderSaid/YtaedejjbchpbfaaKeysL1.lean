/- The laws KeysOrder, KeysBack, walked. -/
import Derived.Test.YtaedejjbchpbfaaKeysA
import Derived.Test.YtaedejjbchpbfaaKeysF2
namespace Go.Proofs.Ytaedejjbchpbfaa.Keys
open Go.RowKit Go.Proofs.YtaedejjbchpbfaaW.PrintWords Go.Proofs.YtaedejjbchpbfaaW.PrintLast Go.Proofs.YtaedejjbchpbfaaW.PrintMore Go.Proofs.Ytaedejjbchpbfaa.Str Go.Proofs.Ytaedejjbchpbfaa.PRef Go.Proofs.Ytaedejjbchpbfaa.Stands Go.Proofs.Ytaedejjbchpbfaa.Sl
set_option linter.unusedVariables false
set_option linter.unusedSimpArgs false
/-- A list as it is handed over. -/
structure Lst (l : List V) (c : Nat) : Prop where
  nn : N64 l
  ss : ∀ v ∈ l, v.f2.size ≤ 140737488351232
  ll : l.length * 32 ≤ 140737488351232
  cc : l.length ≤ c
set_option maxHeartbeats 1000000 in
theorem keysOrder_fun (A0 : Option Addr) (c0 : Nat) (a : List V) (ha : Lst a c0) (A1 : Option Addr) (c1 : Nat) (b : List V) (hb : Lst b c1) :
    FunV Try.prog 6 #[.slice A0 a.length c0, .slice A1 b.length c1] (fun w => Kd.C kV w A0 a.length a ∧ Kd.C kV w A1 b.length b) [] (.bool true) [] := by
  intro w S hS hR
  have H := St.start hS
  have HR := Aside0.mk hR
  clear hS hR
  have hu24 := Try.underlying24
  have hu22 := Try.underlying22
  obtain ⟨s, e, he, hec⟩ := encode_code a
  obtain ⟨t, f, hf, hfc⟩ := encode_code b
  have hcmp : e = 0 → f = 0 → cmpS s t = cmpVs a b ∧ s.size ≤ 1048 := by
    rintro rfl rfl
    exact ⟨order_fact ha.nn hb.nn he hf, (encode_good ha.nn he).2.2.2⟩
  have hsl := stands_eq a b (fun v hv => by have := ha.ss v hv; omega) (by have := ha.ll; omega) _ (Nat.le_refl _)
  have hst : e = 0 → f = 0 → lintelref01_Stands.f 281474976710700 s t = some (cmpVs a b) := fun h1 h2 => by
    have := hcmp h1 h2
    rw [Stands.stands s t (by omega) _ (by omega), this.1]
  clear hcmp
  go_enter Try.func6, Try.ntmps6
  go_wp2_with fail
  refine (encode_calls A0 c0 a ha.nn ha.cc s _ he w (HR.out _ H.ext).1).mono ?_
  rintro x w2 ⟨rfl, hb2⟩
  have H2 := H.later hb2
  go_wp2_with fail
  refine (encode_calls A1 c1 b hb.nn hb.cc t _ hf w2 (HR.out _ H2.ext).2).mono ?_
  rintro x w3 ⟨rfl, hb3⟩
  have H3 := H2.later hb3
  clear he hf H H2 hb2 hb3
  rcases hec with rfl | rfl | rfl
  · rcases hfc with rfl | rfl | rfl
    · have hst' := hst rfl rfl
      clear hst
      go_wp2_with (first
        | (go_at_call 11; refine (awake_fun.call (F := []) H3 (fun _ _ _ _ => trivial)).mono ?_; rintro x w4 ⟨rfl, H4⟩)
        | (go_at_call 15; refine (lintelref01_Stands.calls _ s t _ w4 hst').mono ?_; rintro x w5 ⟨rfl, ⟨nd, rfl⟩⟩; have H5 := H4.drewN nd)
        | (go_at_call 16; refine (lintelref02_Stands.calls _ A0 c0 a A1 c1 b _ _ (HR.out _ H5.ext).1 ha.cc (HR.out _ H5.ext).2 hb.cc hsl).mono ?_; rintro x w6 ⟨rfl, hb6⟩; have H6 := H5.later hb6))
      go_ret
      exact ⟨by simp, H6⟩
    all_goals
      clear hst hsl
      go_wp2_with ((go_at_call 11; refine (awake_fun.call (F := []) H3 (fun _ _ _ _ => trivial)).mono ?_; rintro x w4 ⟨rfl, H4⟩))
      go_ret
      exact ⟨rfl, H4⟩
  all_goals
    clear hst hsl hfc
    go_wp2_with ((go_at_call 11; refine (awake_fun.call (F := []) H3 (fun _ _ _ _ => trivial)).mono ?_; rintro x w4 ⟨rfl, H4⟩))
    go_ret
    exact ⟨rfl, H4⟩
end Go.Proofs.Ytaedejjbchpbfaa.Keys
