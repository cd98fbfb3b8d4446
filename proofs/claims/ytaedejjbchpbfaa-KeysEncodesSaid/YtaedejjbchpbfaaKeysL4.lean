/- The law KeysApart, walked. -/
import Derived.Test.YtaedejjbchpbfaaKeysL2
namespace Go.Proofs.Ytaedejjbchpbfaa.Keys
open Go.RowKit Go.Proofs.YtaedejjbchpbfaaW.PrintWords Go.Proofs.YtaedejjbchpbfaaW.PrintLast Go.Proofs.YtaedejjbchpbfaaW.PrintMore Go.Proofs.Ytaedejjbchpbfaa.Str Go.Proofs.Ytaedejjbchpbfaa.PRef Go.Proofs.Ytaedejjbchpbfaa.Stands Go.Proofs.Ytaedejjbchpbfaa.Sl
set_option linter.unusedVariables false
set_option linter.unusedSimpArgs false
theorem apart_same {a b : List V} (ha : N64 a) (hb : N64 b) {s t : ByteArray} (h : encode a = (s, 0)) (k : encode b = (t, 0)) : (s.toList == t.toList) = decide (a = b) := by
  obtain ⟨g1, rfl, _⟩ := encode_good ha h
  obtain ⟨g2, rfl, _⟩ := encode_good hb k
  rw [mk_toList, mk_toList, Bool.eq_iff_iff, beq_iff_eq, decide_eq_true_eq]
  exact ⟨fun h => encL_inj a b g1 g2 h, fun h => by rw [h]⟩
theorem encode_one (v : V) : encode [v] = (if rightV v = true then (⟨(enc v).toArray⟩, 0) else (⟨#[]⟩, 10)) := by
  unfold encode
  rw [if_neg (by simp)]
  by_cases h : rightV v = true
  · rw [if_pos (by simp [h]), if_pos h]
    simp [encL]
  · rw [if_neg (by simp [h]), if_neg h]
theorem v_beq (x y : V) : (x.f0 == y.f0 && (x.f1 == y.f1 && (x.f2.toList == y.f2.toList))) = decide (x = y) := by
  rw [Bool.eq_iff_iff]
  simp only [Bool.and_eq_true, beq_iff_eq, decide_eq_true_eq]
  exact ⟨fun h => v_ext _ _ h.1 h.2.1 (ext _ _ h.2.2), fun h => by rw [h]; exact ⟨rfl, rfl, rfl⟩⟩
theorem apart_text (x y : V) (hx : rightV x = true) (hy : rightV y = true) (nx : In64 x.f1) (ny : In64 y.f1) (hne : x ≠ y) (hl : (enc x).length ≤ (enc y).length) :
    (((⟨(enc y).toArray⟩ : ByteArray).extract 0 (⟨(enc x).toArray⟩ : ByteArray).size).toList == (⟨(enc x).toArray⟩ : ByteArray).toList) = false := by
  rw [beq_eq_false_iff_ne]
  intro h
  replace h := h.trans (mk_toList _)
  have e : ((⟨(enc y).toArray⟩ : ByteArray).extract 0 (⟨(enc x).toArray⟩ : ByteArray).size).toList = (enc y).take (enc x).length := by
    rw [toList_eq, ByteArray.data_extract, Array.toList_extract, mk_size]
    simp [List.extract_eq_take_drop]
  rw [e] at h
  exact enc_apart x y hx hy nx ny hne ((enc y).drop (enc x).length) ((List.take_append_drop (enc x).length (enc y)).symm.trans (by rw [h]))
attribute [local go_sem high] eqA24
set_option maxHeartbeats 4000000 in
theorem keysApart_fun (A0 : Option Addr) (c0 : Nat) (a : List V) (ha : Lst a c0) (A1 : Option Addr) (c1 : Nat) (b : List V) (hb : Lst b c1) (x y : V) (hx : In64 x.f1) (hy : In64 y.f1) :
    FunV Try.prog 7 #[.slice A0 a.length c0, .slice A1 b.length c1, .agg #[.int .i64 x.f0, .int .i64 x.f1, .string x.f2], .agg #[.int .i64 y.f0, .int .i64 y.f1, .string y.f2]] (fun w => Kd.C kV w A0 a.length a ∧ Kd.C kV w A1 b.length b) [] (.bool true) [] := by
  intro w S hS hR
  have H := St.start hS
  have HR := Aside0.mk hR
  clear hS hR
  have hu24 := Try.underlying24
  have hu22 := Try.underlying22
  obtain ⟨s, e, he, hec⟩ := encode_code a
  obtain ⟨t, f, hf, hfc⟩ := encode_code b
  have hap : e = 0 → f = 0 → (s.toList == t.toList) = decide (a = b) := by
    rintro rfl rfl
    exact apart_same ha.nn hb.nn he hf
  have hsame := same_as a b (by have := ha.ll; omega) _ rfl
  go_enter Try.func7, Try.ntmps7
  go_wp2_with (first
    | ((with_reducible refine gate_dst (N := 6) rfl ?_); refine ev_box ?hg (N := 6) ?hd (cs := [.int .i64 x.f0, .int .i64 x.f1, .string x.f2]) (t := 24) H ?hr ?_; (case hd => rfl); (case hg => rfl); (case hr => first | (go_simp; done) | (go_simp; rfl)); intro gx w0 H0 hgx)
    | ((with_reducible refine gate_dst (N := 7) rfl ?_); refine ev_box ?hg (N := 7) ?hd (cs := [.int .i64 y.f0, .int .i64 y.f1, .string y.f2]) (t := 24) H0 ?hr ?_; (case hd => rfl); (case hg => rfl); (case hr => first | (go_simp; done) | (go_simp; rfl)); intro gy w1 H1 hgy))
  refine (encode_calls A0 c0 a ha.nn ha.cc s _ he w1 (HR.out _ H1.ext).1).mono ?_
  rintro x' w2 ⟨rfl, hb2⟩
  have H2 := H1.later hb2
  clear H H0 H1 hb2
  go_wp2_with fail
  refine (encode_calls A1 c1 b hb.nn hb.cc t _ hf w2 (HR.out _ H2.ext).2).mono ?_
  rintro x' w3 ⟨rfl, hb3⟩
  have H3 := H2.later hb3
  clear he hf H2 hb3
  go_wp2_with fail
  refine (awake_fun.call (F := [HP.obj gy 24 [.int .i64 y.f0, .int .i64 y.f1, .string y.f2], HP.obj gx 24 [.int .i64 x.f0, .int .i64 x.f1, .string x.f2]]) H3 (fun _ _ _ _ => trivial)).mono ?_
  rintro x' w4 ⟨rfl, H4⟩
  have H4 : St w S w4 [HP.obj gy 24 [.int .i64 y.f0, .int .i64 y.f1, .string y.f2], HP.obj gx 24 [.int .i64 x.f0, .int .i64 x.f1, .string x.f2]] := H4
  clear H3
  have hq0 : w4.cell? ⟨gx, 0, none⟩ = some (.int .i64 x.f0) := (H4.mv 1).cell 0
  have hq1 : w4.cell? ⟨gx, 1, none⟩ = some (.int .i64 x.f1) := (H4.mv 1).cell 1
  have hq2 : w4.cell? ⟨gx, 2, none⟩ = some (.string x.f2) := (H4.mv 1).cell 2
  have hnx : N64 [x] := fun v hv => by rw [List.mem_singleton.1 hv]; exact hx
  have hny : N64 [y] := fun v hv => by rw [List.mem_singleton.1 hv]; exact hy
  have e1 := encode_one x
  have e2 := encode_one y
  have hvb := v_beq x y
  have hsz1 := mk_size (enc x)
  have hsz2 := mk_size (enc y)
  rcases hec with rfl | rfl | rfl
  · rcases hfc with rfl | rfl | rfl
    · have hap' := hap rfl rfl
      generalize decide (a = b) = r at hap' hsame
      clear hap
      go_wp2_with (first
        | (go_at_call 12; refine (lintelref01_Same.calls _ A0 c0 a A1 c1 b r w4 (HR.out _ H4.ext).1 ha.cc (HR.out _ H4.ext).2 hb.cc hsame).mono ?_; rintro x' w5 ⟨rfl, ⟨nd, rfl⟩⟩; have HX : St w S (w4.drewN nd) [HP.obj gy 24 [.int .i64 y.f0, .int .i64 y.f1, .string y.f2], HP.obj gx 24 [.int .i64 x.f0, .int .i64 x.f1, .string x.f2]] := H4.drewN nd; have hqx0 : (w4.drewN nd).cell? ⟨gx, 0, none⟩ = some (.int .i64 x.f0) := hq0; have hqx1 : (w4.drewN nd).cell? ⟨gx, 1, none⟩ = some (.int .i64 x.f1) := hq1; have hqx2 : (w4.drewN nd).cell? ⟨gx, 2, none⟩ = some (.string x.f2) := hq2)
        | ((with_reducible refine gate_dst (N := 48) rfl ?_); refine ev_lit kV 24 ?hg (N := 48) ?hd (xs := [x]) (inner := [.int .i64 x.f0, .int .i64 x.f1, .string x.f2]) HX ?hr ?hp (by simp) ?_; (case hd => rfl); (case hg => rfl); (case hr => first | (go_simp; done) | (go_simp; rfl)); (case hp => exact reps1 (k24_mkM _ _ _ x) rfl); intro v6 w6 H6; obtain ⟨A6, c6, rfl, hc6, hC6⟩ := St.row_C H6))
      by_cases rx : rightV x = true
      · rw [if_pos rx] at e1
        refine (encode_calls A6 c6 [x] hnx hc6 _ 0 e1 w6 hC6).mono ?_
        rintro x' w7 ⟨rfl, hb7⟩
        have H7 : St w S w7 [HP.obj gy 24 [.int .i64 y.f0, .int .i64 y.f1, .string y.f2], HP.obj gx 24 [.int .i64 x.f0, .int .i64 x.f1, .string x.f2]] := (H6.later hb7).out 0
        clear hb7 hC6 H6 HX
        have hr0 : w7.cell? ⟨gy, 0, none⟩ = some (.int .i64 y.f0) := H7.cell 0
        have hr1 : w7.cell? ⟨gy, 1, none⟩ = some (.int .i64 y.f1) := H7.cell 1
        have hr2 : w7.cell? ⟨gy, 2, none⟩ = some (.string y.f2) := H7.cell 2
        clear e1
        go_wp2_with ((with_reducible refine gate_dst (N := 54) rfl ?_); refine ev_lit kV 24 ?hg (N := 54) ?hd (xs := [y]) (inner := [.int .i64 y.f0, .int .i64 y.f1, .string y.f2]) H7 ?hr ?hp (by simp) ?_; (case hd => rfl); (case hg => rfl); (case hr => first | (go_simp; done) | (go_simp; rfl)); (case hp => exact reps1 (k24_mkM _ _ _ y) rfl); intro v8 w8 H8; obtain ⟨A8, c8, rfl, hc8, hC8⟩ := St.row_C H8)
        by_cases ry : rightV y = true
        · rw [if_pos ry] at e2
          refine (encode_calls A8 c8 [y] hny hc8 _ 0 e2 w8 hC8).mono ?_
          rintro x' w9 ⟨rfl, hb9⟩
          have H9 : St w S w9 [HP.obj gy 24 [.int .i64 y.f0, .int .i64 y.f1, .string y.f2], HP.obj gx 24 [.int .i64 x.f0, .int .i64 x.f1, .string x.f2]] := (H8.later hb9).out 0
          clear hb9 hC8 H8 H7 e2 hr0 hr1 hr2
          have hs0 : w9.cell? ⟨gy, 0, none⟩ = some (.int .i64 y.f0) := H9.cell 0
          have hs1 : w9.cell? ⟨gy, 1, none⟩ = some (.int .i64 y.f1) := H9.cell 1
          have hs2 : w9.cell? ⟨gy, 2, none⟩ = some (.string y.f2) := H9.cell 2
          have ht0 : w9.cell? ⟨gx, 0, none⟩ = some (.int .i64 x.f0) := (H9.mv 1).cell 0
          have ht1 : w9.cell? ⟨gx, 1, none⟩ = some (.int .i64 x.f1) := (H9.mv 1).cell 1
          have ht2 : w9.cell? ⟨gx, 2, none⟩ = some (.string x.f2) := (H9.mv 1).cell 2
          by_cases hxy : x = y
          · rw [decide_eq_true hxy] at hvb
            clear hsz1 hsz2
            go_wp2
            go_ret
            exact ⟨rfl, (H9.out 0).out 0⟩
          · rw [decide_eq_false hxy] at hvb
            have hat := fun hl => apart_text x y rx ry hx hy hxy hl
            rw [← hsz1, ← hsz2] at hat
            generalize (⟨(enc x).toArray⟩ : ByteArray) = u at hat hsz1 ⊢
            generalize (⟨(enc y).toArray⟩ : ByteArray) = v at hat hsz2 ⊢
            clear hsz1 hsz2
            by_cases hlen : u.size ≤ v.size
            · have hat := hat hlen
              have hlen' : ¬ ((u.size : Int) > (v.size : Int)) := by omega
              have hlen2 : (u.size : Int) ≤ (v.size : Int) := by omega
              go_wp2
              go_ret
              exact ⟨by simp, (H9.out 0).out 0⟩
            · have hlen' : (u.size : Int) > (v.size : Int) := by omega
              clear hat
              go_wp2
              go_ret
              exact ⟨rfl, (H9.out 0).out 0⟩
        · rw [if_neg ry] at e2
          refine (encode_calls A8 c8 [y] hny hc8 _ 10 e2 w8 hC8).mono ?_
          rintro x' w9 ⟨rfl, hb9⟩
          have H9 : St w S w9 [HP.obj gy 24 [.int .i64 y.f0, .int .i64 y.f1, .string y.f2], HP.obj gx 24 [.int .i64 x.f0, .int .i64 x.f1, .string x.f2]] := (H8.later hb9).out 0
          clear hb9 hC8 H8 H7 e2 hsz1 hsz2 hvb
          go_wp2
          go_ret
          exact ⟨rfl, (H9.out 0).out 0⟩
      · rw [if_neg rx] at e1
        refine (encode_calls A6 c6 [x] hnx hc6 _ 10 e1 w6 hC6).mono ?_
        rintro x' w7 ⟨rfl, hb7⟩
        have H7 : St w S w7 [HP.obj gy 24 [.int .i64 y.f0, .int .i64 y.f1, .string y.f2], HP.obj gx 24 [.int .i64 x.f0, .int .i64 x.f1, .string x.f2]] := (H6.later hb7).out 0
        clear hb7 hC6 H6 HX
        have hr0 : w7.cell? ⟨gy, 0, none⟩ = some (.int .i64 y.f0) := H7.cell 0
        have hr1 : w7.cell? ⟨gy, 1, none⟩ = some (.int .i64 y.f1) := H7.cell 1
        have hr2 : w7.cell? ⟨gy, 2, none⟩ = some (.string y.f2) := H7.cell 2
        clear e1
        go_wp2_with ((with_reducible refine gate_dst (N := 54) rfl ?_); refine ev_lit kV 24 ?hg (N := 54) ?hd (xs := [y]) (inner := [.int .i64 y.f0, .int .i64 y.f1, .string y.f2]) H7 ?hr ?hp (by simp) ?_; (case hd => rfl); (case hg => rfl); (case hr => first | (go_simp; done) | (go_simp; rfl)); (case hp => exact reps1 (k24_mkM _ _ _ y) rfl); intro v8 w8 H8; obtain ⟨A8, c8, rfl, hc8, hC8⟩ := St.row_C H8)
        obtain ⟨s2, f2, ey, _⟩ := encode_code [y]
        refine (encode_calls A8 c8 [y] hny hc8 s2 f2 ey w8 hC8).mono ?_
        rintro x' w9 ⟨rfl, hb9⟩
        have H9 : St w S w9 [HP.obj gy 24 [.int .i64 y.f0, .int .i64 y.f1, .string y.f2], HP.obj gx 24 [.int .i64 x.f0, .int .i64 x.f1, .string x.f2]] := (H8.later hb9).out 0
        clear hb9 hC8 H8 H7 ey e2 hsz1 hsz2 hvb
        go_wp2
        go_ret
        exact ⟨rfl, (H9.out 0).out 0⟩
    all_goals
      have HX := H4
      clear hap hsame
      go_wp2_with ((with_reducible refine gate_dst (N := 48) rfl ?_); refine ev_lit kV 24 ?hg (N := 48) ?hd (xs := [x]) (inner := [.int .i64 x.f0, .int .i64 x.f1, .string x.f2]) HX ?hr ?hp (by simp) ?_; (case hd => rfl); (case hg => rfl); (case hr => first | (go_simp; done) | (go_simp; rfl)); (case hp => exact reps1 (k24_mkM _ _ _ x) rfl); intro v6 w6 H6; obtain ⟨A6, c6, rfl, hc6, hC6⟩ := St.row_C H6)
      by_cases rx : rightV x = true
      · rw [if_pos rx] at e1
        refine (encode_calls A6 c6 [x] hnx hc6 _ 0 e1 w6 hC6).mono ?_
        rintro x' w7 ⟨rfl, hb7⟩
        have H7 : St w S w7 [HP.obj gy 24 [.int .i64 y.f0, .int .i64 y.f1, .string y.f2], HP.obj gx 24 [.int .i64 x.f0, .int .i64 x.f1, .string x.f2]] := (H6.later hb7).out 0
        clear hb7 hC6 H6 HX
        have hr0 : w7.cell? ⟨gy, 0, none⟩ = some (.int .i64 y.f0) := H7.cell 0
        have hr1 : w7.cell? ⟨gy, 1, none⟩ = some (.int .i64 y.f1) := H7.cell 1
        have hr2 : w7.cell? ⟨gy, 2, none⟩ = some (.string y.f2) := H7.cell 2
        clear e1
        go_wp2_with ((with_reducible refine gate_dst (N := 54) rfl ?_); refine ev_lit kV 24 ?hg (N := 54) ?hd (xs := [y]) (inner := [.int .i64 y.f0, .int .i64 y.f1, .string y.f2]) H7 ?hr ?hp (by simp) ?_; (case hd => rfl); (case hg => rfl); (case hr => first | (go_simp; done) | (go_simp; rfl)); (case hp => exact reps1 (k24_mkM _ _ _ y) rfl); intro v8 w8 H8; obtain ⟨A8, c8, rfl, hc8, hC8⟩ := St.row_C H8)
        by_cases ry : rightV y = true
        · rw [if_pos ry] at e2
          refine (encode_calls A8 c8 [y] hny hc8 _ 0 e2 w8 hC8).mono ?_
          rintro x' w9 ⟨rfl, hb9⟩
          have H9 : St w S w9 [HP.obj gy 24 [.int .i64 y.f0, .int .i64 y.f1, .string y.f2], HP.obj gx 24 [.int .i64 x.f0, .int .i64 x.f1, .string x.f2]] := (H8.later hb9).out 0
          clear hb9 hC8 H8 H7 e2 hr0 hr1 hr2
          have hs0 : w9.cell? ⟨gy, 0, none⟩ = some (.int .i64 y.f0) := H9.cell 0
          have hs1 : w9.cell? ⟨gy, 1, none⟩ = some (.int .i64 y.f1) := H9.cell 1
          have hs2 : w9.cell? ⟨gy, 2, none⟩ = some (.string y.f2) := H9.cell 2
          have ht0 : w9.cell? ⟨gx, 0, none⟩ = some (.int .i64 x.f0) := (H9.mv 1).cell 0
          have ht1 : w9.cell? ⟨gx, 1, none⟩ = some (.int .i64 x.f1) := (H9.mv 1).cell 1
          have ht2 : w9.cell? ⟨gx, 2, none⟩ = some (.string x.f2) := (H9.mv 1).cell 2
          by_cases hxy : x = y
          · rw [decide_eq_true hxy] at hvb
            clear hsz1 hsz2
            go_wp2
            go_ret
            exact ⟨rfl, (H9.out 0).out 0⟩
          · rw [decide_eq_false hxy] at hvb
            have hat := fun hl => apart_text x y rx ry hx hy hxy hl
            rw [← hsz1, ← hsz2] at hat
            generalize (⟨(enc x).toArray⟩ : ByteArray) = u at hat hsz1 ⊢
            generalize (⟨(enc y).toArray⟩ : ByteArray) = v at hat hsz2 ⊢
            clear hsz1 hsz2
            by_cases hlen : u.size ≤ v.size
            · have hat := hat hlen
              have hlen' : ¬ ((u.size : Int) > (v.size : Int)) := by omega
              have hlen2 : (u.size : Int) ≤ (v.size : Int) := by omega
              go_wp2
              go_ret
              exact ⟨by simp, (H9.out 0).out 0⟩
            · have hlen' : (u.size : Int) > (v.size : Int) := by omega
              clear hat
              go_wp2
              go_ret
              exact ⟨rfl, (H9.out 0).out 0⟩
        · rw [if_neg ry] at e2
          refine (encode_calls A8 c8 [y] hny hc8 _ 10 e2 w8 hC8).mono ?_
          rintro x' w9 ⟨rfl, hb9⟩
          have H9 : St w S w9 [HP.obj gy 24 [.int .i64 y.f0, .int .i64 y.f1, .string y.f2], HP.obj gx 24 [.int .i64 x.f0, .int .i64 x.f1, .string x.f2]] := (H8.later hb9).out 0
          clear hb9 hC8 H8 H7 e2 hsz1 hsz2 hvb
          go_wp2
          go_ret
          exact ⟨rfl, (H9.out 0).out 0⟩
      · rw [if_neg rx] at e1
        refine (encode_calls A6 c6 [x] hnx hc6 _ 10 e1 w6 hC6).mono ?_
        rintro x' w7 ⟨rfl, hb7⟩
        have H7 : St w S w7 [HP.obj gy 24 [.int .i64 y.f0, .int .i64 y.f1, .string y.f2], HP.obj gx 24 [.int .i64 x.f0, .int .i64 x.f1, .string x.f2]] := (H6.later hb7).out 0
        clear hb7 hC6 H6 HX
        have hr0 : w7.cell? ⟨gy, 0, none⟩ = some (.int .i64 y.f0) := H7.cell 0
        have hr1 : w7.cell? ⟨gy, 1, none⟩ = some (.int .i64 y.f1) := H7.cell 1
        have hr2 : w7.cell? ⟨gy, 2, none⟩ = some (.string y.f2) := H7.cell 2
        clear e1
        go_wp2_with ((with_reducible refine gate_dst (N := 54) rfl ?_); refine ev_lit kV 24 ?hg (N := 54) ?hd (xs := [y]) (inner := [.int .i64 y.f0, .int .i64 y.f1, .string y.f2]) H7 ?hr ?hp (by simp) ?_; (case hd => rfl); (case hg => rfl); (case hr => first | (go_simp; done) | (go_simp; rfl)); (case hp => exact reps1 (k24_mkM _ _ _ y) rfl); intro v8 w8 H8; obtain ⟨A8, c8, rfl, hc8, hC8⟩ := St.row_C H8)
        obtain ⟨s2, f2, ey, _⟩ := encode_code [y]
        refine (encode_calls A8 c8 [y] hny hc8 s2 f2 ey w8 hC8).mono ?_
        rintro x' w9 ⟨rfl, hb9⟩
        have H9 : St w S w9 [HP.obj gy 24 [.int .i64 y.f0, .int .i64 y.f1, .string y.f2], HP.obj gx 24 [.int .i64 x.f0, .int .i64 x.f1, .string x.f2]] := (H8.later hb9).out 0
        clear hb9 hC8 H8 H7 ey e2 hsz1 hsz2 hvb
        go_wp2
        go_ret
        exact ⟨rfl, (H9.out 0).out 0⟩
  all_goals
    have HX := H4
    clear hap hsame hfc
    go_wp2_with ((with_reducible refine gate_dst (N := 48) rfl ?_); refine ev_lit kV 24 ?hg (N := 48) ?hd (xs := [x]) (inner := [.int .i64 x.f0, .int .i64 x.f1, .string x.f2]) HX ?hr ?hp (by simp) ?_; (case hd => rfl); (case hg => rfl); (case hr => first | (go_simp; done) | (go_simp; rfl)); (case hp => exact reps1 (k24_mkM _ _ _ x) rfl); intro v6 w6 H6; obtain ⟨A6, c6, rfl, hc6, hC6⟩ := St.row_C H6)
    by_cases rx : rightV x = true
    · rw [if_pos rx] at e1
      refine (encode_calls A6 c6 [x] hnx hc6 _ 0 e1 w6 hC6).mono ?_
      rintro x' w7 ⟨rfl, hb7⟩
      have H7 : St w S w7 [HP.obj gy 24 [.int .i64 y.f0, .int .i64 y.f1, .string y.f2], HP.obj gx 24 [.int .i64 x.f0, .int .i64 x.f1, .string x.f2]] := (H6.later hb7).out 0
      clear hb7 hC6 H6 HX
      have hr0 : w7.cell? ⟨gy, 0, none⟩ = some (.int .i64 y.f0) := H7.cell 0
      have hr1 : w7.cell? ⟨gy, 1, none⟩ = some (.int .i64 y.f1) := H7.cell 1
      have hr2 : w7.cell? ⟨gy, 2, none⟩ = some (.string y.f2) := H7.cell 2
      clear e1
      go_wp2_with ((with_reducible refine gate_dst (N := 54) rfl ?_); refine ev_lit kV 24 ?hg (N := 54) ?hd (xs := [y]) (inner := [.int .i64 y.f0, .int .i64 y.f1, .string y.f2]) H7 ?hr ?hp (by simp) ?_; (case hd => rfl); (case hg => rfl); (case hr => first | (go_simp; done) | (go_simp; rfl)); (case hp => exact reps1 (k24_mkM _ _ _ y) rfl); intro v8 w8 H8; obtain ⟨A8, c8, rfl, hc8, hC8⟩ := St.row_C H8)
      by_cases ry : rightV y = true
      · rw [if_pos ry] at e2
        refine (encode_calls A8 c8 [y] hny hc8 _ 0 e2 w8 hC8).mono ?_
        rintro x' w9 ⟨rfl, hb9⟩
        have H9 : St w S w9 [HP.obj gy 24 [.int .i64 y.f0, .int .i64 y.f1, .string y.f2], HP.obj gx 24 [.int .i64 x.f0, .int .i64 x.f1, .string x.f2]] := (H8.later hb9).out 0
        clear hb9 hC8 H8 H7 e2 hr0 hr1 hr2
        have hs0 : w9.cell? ⟨gy, 0, none⟩ = some (.int .i64 y.f0) := H9.cell 0
        have hs1 : w9.cell? ⟨gy, 1, none⟩ = some (.int .i64 y.f1) := H9.cell 1
        have hs2 : w9.cell? ⟨gy, 2, none⟩ = some (.string y.f2) := H9.cell 2
        have ht0 : w9.cell? ⟨gx, 0, none⟩ = some (.int .i64 x.f0) := (H9.mv 1).cell 0
        have ht1 : w9.cell? ⟨gx, 1, none⟩ = some (.int .i64 x.f1) := (H9.mv 1).cell 1
        have ht2 : w9.cell? ⟨gx, 2, none⟩ = some (.string x.f2) := (H9.mv 1).cell 2
        by_cases hxy : x = y
        · rw [decide_eq_true hxy] at hvb
          clear hsz1 hsz2
          go_wp2
          go_ret
          exact ⟨rfl, (H9.out 0).out 0⟩
        · rw [decide_eq_false hxy] at hvb
          have hat := fun hl => apart_text x y rx ry hx hy hxy hl
          rw [← hsz1, ← hsz2] at hat
          generalize (⟨(enc x).toArray⟩ : ByteArray) = u at hat hsz1 ⊢
          generalize (⟨(enc y).toArray⟩ : ByteArray) = v at hat hsz2 ⊢
          clear hsz1 hsz2
          by_cases hlen : u.size ≤ v.size
          · have hat := hat hlen
            have hlen' : ¬ ((u.size : Int) > (v.size : Int)) := by omega
            have hlen2 : (u.size : Int) ≤ (v.size : Int) := by omega
            go_wp2
            go_ret
            exact ⟨by simp, (H9.out 0).out 0⟩
          · have hlen' : (u.size : Int) > (v.size : Int) := by omega
            clear hat
            go_wp2
            go_ret
            exact ⟨rfl, (H9.out 0).out 0⟩
      · rw [if_neg ry] at e2
        refine (encode_calls A8 c8 [y] hny hc8 _ 10 e2 w8 hC8).mono ?_
        rintro x' w9 ⟨rfl, hb9⟩
        have H9 : St w S w9 [HP.obj gy 24 [.int .i64 y.f0, .int .i64 y.f1, .string y.f2], HP.obj gx 24 [.int .i64 x.f0, .int .i64 x.f1, .string x.f2]] := (H8.later hb9).out 0
        clear hb9 hC8 H8 H7 e2 hsz1 hsz2 hvb
        go_wp2
        go_ret
        exact ⟨rfl, (H9.out 0).out 0⟩
    · rw [if_neg rx] at e1
      refine (encode_calls A6 c6 [x] hnx hc6 _ 10 e1 w6 hC6).mono ?_
      rintro x' w7 ⟨rfl, hb7⟩
      have H7 : St w S w7 [HP.obj gy 24 [.int .i64 y.f0, .int .i64 y.f1, .string y.f2], HP.obj gx 24 [.int .i64 x.f0, .int .i64 x.f1, .string x.f2]] := (H6.later hb7).out 0
      clear hb7 hC6 H6 HX
      have hr0 : w7.cell? ⟨gy, 0, none⟩ = some (.int .i64 y.f0) := H7.cell 0
      have hr1 : w7.cell? ⟨gy, 1, none⟩ = some (.int .i64 y.f1) := H7.cell 1
      have hr2 : w7.cell? ⟨gy, 2, none⟩ = some (.string y.f2) := H7.cell 2
      clear e1
      go_wp2_with ((with_reducible refine gate_dst (N := 54) rfl ?_); refine ev_lit kV 24 ?hg (N := 54) ?hd (xs := [y]) (inner := [.int .i64 y.f0, .int .i64 y.f1, .string y.f2]) H7 ?hr ?hp (by simp) ?_; (case hd => rfl); (case hg => rfl); (case hr => first | (go_simp; done) | (go_simp; rfl)); (case hp => exact reps1 (k24_mkM _ _ _ y) rfl); intro v8 w8 H8; obtain ⟨A8, c8, rfl, hc8, hC8⟩ := St.row_C H8)
      obtain ⟨s2, f2, ey, _⟩ := encode_code [y]
      refine (encode_calls A8 c8 [y] hny hc8 s2 f2 ey w8 hC8).mono ?_
      rintro x' w9 ⟨rfl, hb9⟩
      have H9 : St w S w9 [HP.obj gy 24 [.int .i64 y.f0, .int .i64 y.f1, .string y.f2], HP.obj gx 24 [.int .i64 x.f0, .int .i64 x.f1, .string x.f2]] := (H8.later hb9).out 0
      clear hb9 hC8 H8 H7 ey e2 hsz1 hsz2 hvb
      go_wp2
      go_ret
      exact ⟨rfl, (H9.out 0).out 0⟩
end Go.Proofs.Ytaedejjbchpbfaa.Keys
