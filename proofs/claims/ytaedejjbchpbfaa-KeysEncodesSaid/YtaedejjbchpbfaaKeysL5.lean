/- The law KeysEncodes, walked. -/
import Derived.Test.YtaedejjbchpbfaaKeysL2
import Derived.Test.YtaedejjbchpbfaaSlStep
import Derived.Deep.DrawnRows
namespace Go.Proofs.Ytaedejjbchpbfaa.Keys
open Go.RowKit Go.Proofs.YtaedejjbchpbfaaW.PrintWords Go.Proofs.YtaedejjbchpbfaaW.PrintLast Go.Proofs.YtaedejjbchpbfaaW.PrintMore Go.Proofs.Ytaedejjbchpbfaa.Str Go.Proofs.Ytaedejjbchpbfaa.PRef Go.Proofs.Ytaedejjbchpbfaa.Stands Go.Proofs.Ytaedejjbchpbfaa.Sl
set_option linter.unusedVariables false
set_option linter.unusedSimpArgs false
theorem flatV : Flat kV := fun w b x cs h => by
  obtain rfl := k24_open h
  exact k24_mkM _ _ _ _
def v7 : V := ⟨0, 7, ⟨#[]⟩⟩
attribute [local go_sem ↓] Go.wp_at_zero Go.wp_at_succ
set_option maxHeartbeats 4000000 in
theorem keysEncodes_fun (A0 : Option Addr) (c0 : Nat) (a : List V) (ha : Lst a c0) :
    FunV Try.prog 3 #[.slice A0 a.length c0] (fun w => Kd.C kV w A0 a.length a) [] (.bool true) [] := by
  intro w S hS hR
  have H := St.start hS
  have HR := Aside0.mk hR
  clear hS hR
  have hu24 := Try.underlying24
  have hu22 := Try.underlying22
  have hll := ha.ll
  have hrz : ∀ W, HP.cells kV v7 [.int .i64 0, .int .i64 7, .string ⟨#[]⟩] = HP.cells kV v7 [.int .i64 0, .int .i64 7, .string ⟨#[]⟩] := fun _ : World => rfl
  clear hrz
  go_enter Try.func3, Try.ntmps3
  go_wp2_with (first
    | ((with_reducible refine gate_dst (N := 8) rfl ?_); refine ev_lit kV 24 ?hg (N := 8) ?hd (xs := ([] : List V)) (inner := []) H ?hr ?hp (by simp) ?_; (case hd => rfl); (case hg => rfl); (case hr => first | (go_simp; done) | (go_simp; rfl)); (case hp => exact Reps.none _ _); intro v1 w1 H1)
    | ((with_reducible refine gate_dst (N := 10) rfl ?_); at_builtin; refine ev_rows kV flatV rfl (.tmp 8) (.tmp 9) 22 24 _ 32 rfl Try.underlying22 infoV rfl (by decide) (by omega) v1 [] a A0 c0 rfl rfl H1 ?hc ?hl ?_; (case hc => exact HR.out _ H1.ext); (case hl => simp; omega); intro v2 w2 H2; have H2 : St w S w2 [HP.row kV 24 v2 a, HP.cells kV v7 [.int .i64 0, .int .i64 7, .string ⟨#[]⟩]] := (H2.cells_ (k24_mkM _ _ _ v7)).mv 1)
    | ((with_reducible refine gate_dst (N := 13) rfl ?_); at_builtin; refine ev_append kV rfl (.tmp 10) (.tmp 12) 22 24 _ 32 rfl Try.underlying22 infoV rfl (by decide) (by omega) v2 a v7 [.int .i64 0, .int .i64 7, .string ⟨#[]⟩] rfl rfl H2 (by omega) ?_; intro v3 w3 H3; obtain ⟨A3, c3, rfl, hc3, hC3⟩ := St.row_C H3; have hca : a.length + 1 ≤ c3 := (by simpa using hc3); have hcb : a.length ≤ c3 := (by omega)))
  have HT := Kd.C_take hC3 (m := a.length) (by simp)
  rw [show (a ++ [v7]).take a.length = a by simp] at HT
  obtain ⟨s, e, he, hec⟩ := encode_code a
  refine (encode_calls A3 c3 a ha.nn hcb s e he w3 HT).mono ?_
  rintro x w4 ⟨rfl, hb4⟩
  have H4 := H3.later hb4
  clear H H1 H2 H3 HT hC3 hb4
  go_wp2_with fail
  refine (lintelref02_Encode.calls 300 A0 c0 a s e _ (HR.out _ H4.ext) ha.cc (by rw [ref_encode_eq a ha.nn 300 (Nat.le_refl _), he])).mono ?_
  rintro x w5 ⟨rfl, hb5⟩
  have H5 := H4.later hb5
  clear H4 hb5 he
  have hsame := same_as (a ++ [v7]) (a ++ [v7]) (by simp; omega) true (by simp)
  rcases hec with rfl | rfl | rfl
  all_goals
    have H5 : St w S w5 [HP.row kV 24 (.slice A3 (a ++ [v7]).length c3) (a ++ [v7])] := H5
    have hln : (a ++ [v7]).length = a.length + 1 := by simp
    have hlo : (0 : Int) ≤ (a.length : Int) + 1 := by omega
    have hhi : (a.length : Int) + 1 ≤ (c3 : Int) := by omega
    have hwr : IntKind.i64.wrap ((a.length : Int) + 1) = (a.length : Int) + 1 := IntWalk.i64_in _ (by omega)
    go_wp2_with fail
    go_region_held3 (fun _ => True) (trivial) (first
      | (go_at_call 11; refine (awake_fun.call (F := [HP.row kV 24 (.slice A3 (a ++ [v7]).length c3) (a ++ [v7])]) (H5.drew) (fun _ _ _ _ => trivial)).mono ?_; rintro x w6 ⟨rfl, HX⟩; clear H5)
      | (go_at_call 12; have hs := lintelref01_Same.calls _ A3 c3 (a ++ [v7]) A49 c49 (a ++ [v7]) true w49 (St.row_reads (HX.mv 2)).2.2 hc3 (St.row_reads HX).2.2 (by rw [hln]; exact hc49) hsame; rw [hln] at hs; refine hs.mono ?_; clear hs; rintro x w5 ⟨rfl, ⟨nd, rfl⟩⟩; have HY := HX.drewN nd; clear HX; have HX := HY; clear HY)
      | (refine at_w (w46.alloc (Obj.cells #[.int .i64 0, .int .i64 7, .string ⟨#[]⟩] 24)) ?_; have HZ := ((HX).lit (d := kV) (e := 24) (xs := [v7]) (inner := [.int .i64 0, .int .i64 7, .string ⟨#[]⟩]) (reps1 (k24_mkM _ _ _ v7) rfl) (by simp)).mv 1; refine ev_rows_step kV flatV (by rfl) (.tmp 46) (.tmp 48) 22 24 _ 32 (by rfl) Try.underlying22 infoV rfl (by decide) (by omega) v46 a [v7] _ _ (by rfl) (by rfl) HZ (St.row_reads (HZ.mv 1)).2.2 (by simp; omega) ?_; clear HZ; intro v49 w49 HY; clear HX; obtain ⟨A49, c49, hv49, hc49, hC49⟩ := St.row_C HY; clear hC49; rw [hln] at hv49 hc49; subst hv49; have HX := HY; clear HY)
      | (refine at_w w46 ?_; have HZ := HX; refine ev_rows_step kV flatV (by rfl) (.tmp 46) (.tmp 48) 22 24 _ 32 (by rfl) Try.underlying22 infoV rfl (by decide) (by omega) v46 a [v7] _ _ (by rfl) (by rfl) HZ (St.row_reads (HZ.mv 1)).2.2 (by simp; omega) ?_; clear HZ; intro v49 w49 HY; clear HX; obtain ⟨A49, c49, hv49, hc49, hC49⟩ := St.row_C HY; clear hC49; rw [hln] at hv49 hc49; subst hv49; have HX := HY; clear HY)
      | (refine at_w (w6.alloc (Obj.cells #[] 24)) ?_; have HZ := (HX).lit (d := kV) (e := 24) (xs := ([] : List V)) (inner := []) (Reps.none _ _) (by simp); refine ev_rows_step kV flatV (by rfl) (.tmp 44) (.tmp 45) 22 24 _ 32 (by rfl) Try.underlying22 infoV rfl (by decide) (by omega) _ [] a A0 c0 (by rfl) (by rfl) HZ (HR.out _ HZ.ext) (by simp; omega) ?_; clear HZ; intro v46 w46 HY; clear HX; have HX := HY; clear HY)
      | (refine at_w ((w6.alloc (Obj.cells #[] 24)).alloc (Obj.cells #[.int .i64 0, .int .i64 7, .string ⟨#[]⟩] 24)) ?_; have HZ := (((HX).lit (d := kV) (e := 24) (xs := ([] : List V)) (inner := []) (Reps.none _ _) (by simp)).lit (d := kV) (e := 24) (xs := [v7]) (inner := [.int .i64 0, .int .i64 7, .string ⟨#[]⟩]) (reps1 (k24_mkM _ _ _ v7) rfl) (by simp)).mv 1; rw [World.size_alloc] at HZ; refine ev_rows_step kV flatV (by rfl) (.tmp 44) (.tmp 45) 22 24 _ 32 (by rfl) Try.underlying22 infoV rfl (by decide) (by omega) _ [] a A0 c0 (by rfl) (by rfl) HZ (HR.out _ HZ.ext) (by simp; omega) ?_; clear HZ; intro v46 w46 HY; clear HX; have HX := HY; clear HY)
      | (refine at_w ((w6.alloc (Obj.cells #[.int .i64 0, .int .i64 7, .string ⟨#[]⟩] 24)).alloc (Obj.cells #[] 24)) ?_; have HZ := ((HX).lit (d := kV) (e := 24) (xs := [v7]) (inner := [.int .i64 0, .int .i64 7, .string ⟨#[]⟩]) (reps1 (k24_mkM _ _ _ v7) rfl) (by simp)).lit (d := kV) (e := 24) (xs := ([] : List V)) (inner := []) (Reps.none _ _) (by simp); rw [World.size_alloc] at HZ; refine ev_rows_step kV flatV (by rfl) (.tmp 44) (.tmp 45) 22 24 _ 32 (by rfl) Try.underlying22 infoV rfl (by decide) (by omega) _ [] a A0 c0 (by rfl) (by rfl) HZ (HR.out _ HZ.ext) (by simp; omega) ?_; clear HZ; intro v46 w46 HY; clear HX; have HX := HY; clear HY))
    all_goals
      go_wp2
      go_ret
      exact ⟨rfl, ((HX.out 0).out 0).out 0⟩
end Go.Proofs.Ytaedejjbchpbfaa.Keys
