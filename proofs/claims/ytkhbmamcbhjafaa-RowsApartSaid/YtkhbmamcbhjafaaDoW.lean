/- (*world).do, walked. -/
import Derived.Test.YtkhbmamcbhjafaaChgX
import Derived.Test.YtkhbmamcbhjafaaWithinW
import Derived.Deep.DeepCutAuto
namespace Go.Proofs.Ytkhbmamcbhjafaa.Keys
open Go.RowKit Go.Proofs.YtkhbmamcbhjafaaW.PrintWords Go.Proofs.YtkhbmamcbhjafaaW.PrintLast Go.Proofs.YtkhbmamcbhjafaaW.PrintMore Go.Proofs.Ytkhbmamcbhjafaa.Str Go.Proofs.Ytkhbmamcbhjafaa.PRef Go.Proofs.Ytkhbmamcbhjafaa.Stands Go.Proofs.Ytkhbmamcbhjafaa.Sl
set_option linter.unusedVariables false
set_option linter.unusedSimpArgs false
/-- The world of the plays, its rows' slices named. -/
def WQ (g mb : Nat) (u0 u1 u2 u3 : Value) (s : Sta) : HP := all [HP.obj g 28 [u0, u1, u2, u3, .map (some mb)], HP.row kC 73 u0 s.r0, HP.row kC 73 u1 s.r1, HP.row kC 73 u2 s.r2, HP.row kC 73 u3 s.r3, MP mb s.m]
def WP (g mb : Nat) (s : Sta) : HP := HP.ex fun u0 => HP.ex fun u1 => HP.ex fun u2 => HP.ex fun u3 => WQ g mb u0 u1 u2 u3 s
theorem WQ_open {w0 w : World} {S0 : Nat → Prop} {F : List HP} {g mb : Nat} {u0 u1 u2 u3 : Value} {s : Sta} (h : St w0 S0 w (WQ g mb u0 u1 u2 u3 s :: F)) : St w0 S0 w (HP.obj g 28 [u0, u1, u2, u3, .map (some mb)] :: HP.row kC 73 u0 s.r0 :: HP.row kC 73 u1 s.r1 :: HP.row kC 73 u2 s.r2 :: HP.row kC 73 u3 s.r3 :: MP mb s.m :: F) := St.all_ h
theorem WQ_shut {w0 w : World} {S0 : Nat → Prop} {F : List HP} {g mb : Nat} {u0 u1 u2 u3 : Value} {r0 r1 r2 r3 : List C} {m : Ents} (h : St w0 S0 w (HP.obj g 28 [u0, u1, u2, u3, .map (some mb)] :: HP.row kC 73 u0 r0 :: HP.row kC 73 u1 r1 :: HP.row kC 73 u2 r2 :: HP.row kC 73 u3 r3 :: MP mb m :: F)) : St w0 S0 w (WQ g mb u0 u1 u2 u3 ⟨r0, r1, r2, r3, m⟩ :: F) :=
  St.unall (L := [HP.obj g 28 [u0, u1, u2, u3, .map (some mb)], HP.row kC 73 u0 r0, HP.row kC 73 u1 r1, HP.row kC 73 u2 r2, HP.row kC 73 u3 r3, MP mb m]) h
theorem WP_open {w0 w : World} {S0 : Nat → Prop} {F : List HP} {g mb : Nat} {s : Sta} (h : St w0 S0 w (WP g mb s :: F)) : ∃ u0 u1 u2 u3, St w0 S0 w (HP.obj g 28 [u0, u1, u2, u3, .map (some mb)] :: HP.row kC 73 u0 s.r0 :: HP.row kC 73 u1 s.r1 :: HP.row kC 73 u2 s.r2 :: HP.row kC 73 u3 s.r3 :: MP mb s.m :: F) := by
  obtain ⟨u0, h⟩ := St.ex_ h
  obtain ⟨u1, h⟩ := St.ex_ h
  obtain ⟨u2, h⟩ := St.ex_ h
  obtain ⟨u3, h⟩ := St.ex_ h
  exact ⟨u0, u1, u2, u3, St.all_ h⟩
theorem WP_shut {w0 w : World} {S0 : Nat → Prop} {F : List HP} {g mb : Nat} {u0 u1 u2 u3 : Value} {r0 r1 r2 r3 : List C} {m : Ents} (h : St w0 S0 w (HP.obj g 28 [u0, u1, u2, u3, .map (some mb)] :: HP.row kC 73 u0 r0 :: HP.row kC 73 u1 r1 :: HP.row kC 73 u2 r2 :: HP.row kC 73 u3 r3 :: MP mb m :: F)) : St w0 S0 w (WP g mb ⟨r0, r1, r2, r3, m⟩ :: F) :=
  St.ex_in u0 (St.ex_in u1 (St.ex_in u2 (St.ex_in u3 (St.unall (L := [HP.obj g 28 [u0, u1, u2, u3, .map (some mb)], HP.row kC 73 u0 r0, HP.row kC 73 u1 r1, HP.row kC 73 u2 r2, HP.row kC 73 u3 r3, MP mb m]) h))))
theorem WP_c4 {w0 w : World} {S0 : Nat → Prop} {F : List HP} {g mb : Nat} {s : Sta} (h : St w0 S0 w (WP g mb s :: F)) : w.cell? ⟨g, 4, none⟩ = some (.map (some mb)) := by
  obtain ⟨u0, u1, u2, u3, h⟩ := WP_open h
  exact h.cell 4
theorem encode_size (l : List V) : (encode l).1.size ≤ 100000 := by
  unfold encode
  by_cases h8 : l.length > 8
  · rw [if_pos h8]; decide
  · rw [if_neg h8]
    by_cases ha : l.all rightV = true
    · rw [if_pos ha]
      show (⟨(encL l).toArray⟩ : ByteArray).size ≤ 100000
      rw [mk_size]
      have := encL_length l ha
      omega
    · rw [if_neg ha]; decide
theorem ch_keys (st : Int) (old x : List C) : (changes 1 2 (ixOf st) old x).length ≤ 10 ∧ ∀ q ∈ changes 1 2 (ixOf st) old x, q.key.size ≤ 100000 := by
  unfold changes
  by_cases h0 : old.length + x.length = 0
  · rw [if_pos h0]; simp
  · rw [if_neg h0]
    by_cases h1 : (put x).2 ≠ 0
    · rw [if_pos h1]; simp
    · rw [if_neg h1]
      have hst : ∀ i : Ix, (chStep old x (chKey 2 old x) i).length ≤ 2 ∧ ∀ q ∈ chStep old x (chKey 2 old x) i, q.key.size ≤ 100000 := by
        intro i
        unfold chStep
        refine ⟨?_, ?_⟩
        · rw [List.length_append]
          have a1 : ∀ (p : Prop) [Decidable p] (a : Wr), (if p then [a] else []).length ≤ 1 := fun p _ a => by split <;> simp
          have := a1 (0 < old.length ∧ (x.length = 0 ∨ ofC old i.f2 ≠ ofC x i.f2)) ⟨entryK i.f0 (ofC old i.f2) (chKey 2 old x), ⟨#[]⟩, true⟩
          have := a1 (0 < x.length ∧ (i.f4 = 2 ∨ i.f4 = 3)) ⟨entryK i.f0 (ofC x i.f2) (chKey 2 old x), ⟨#[]⟩, false⟩
          omega
        · have a1 : ∀ (p : Prop) [Decidable p] (a q : Wr), q ∈ (if p then [a] else []) → q = a := fun p _ a q h => by
            split at h
            · simpa using h
            · simp at h
          intro q hq
          rcases List.mem_append.1 hq with hq | hq
          · rw [a1 _ _ _ hq]; exact encode_size _
          · rw [a1 _ _ _ hq]; exact encode_size _
      unfold ixOf
      by_cases hs : st = 0
      · rw [if_pos hs]
        simp only [List.map_nil, List.flatten_nil, List.length_cons, List.length_nil, List.mem_singleton]
        exact ⟨by omega, fun q hq => by rw [hq]; exact encode_size _⟩
      · rw [if_neg hs]
        simp only [List.map_cons, List.map_nil, List.flatten_cons, List.flatten_nil, List.append_nil, List.length_cons, List.mem_cons]
        have := hst ⟨4, ⟨#[105]⟩, 3, false, st⟩
        refine ⟨by omega, ?_⟩
        rintro q (rfl | hq)
        · exact encode_size _
        · exact this.2 q hq
theorem table_eq (st : Int) : lintellaw20_table.f st = some (1, ⟨#[116]⟩, colsC, ixOf st, []) := by
  unfold lintellaw20_table.f ixOf colsC
  simp only [Option.bind_some]
  by_cases h : st = 0
  · rw [if_pos h, if_pos h]
  · rw [if_neg h, if_neg h]
theorem index_eq : rows_Index.f 300 4 = some (spF, spT) := by
  have h := encode_eq [numV 1, numV 4] (fun v hv => (good2 v hv).2) 300 (Nat.le_refl _)
  unfold rows_Index.f rows_num.f rows_key.f
  simp only [Option.bind_some]
  rw [show ([⟨1, 1, ⟨#[]⟩⟩, ⟨1, 4, ⟨#[]⟩⟩] : List V) = [numV 1, numV 4] from rfl, h]
  simp only [Option.bind_some]
  unfold keys_Under.f
  have hs : (encode [numV 1, numV 4]).1.size + 1 ≤ 9223372036854775807 := by have := encode_size [numV 1, numV 4]; omega
  rw [if_pos hs]
  rfl
theorem spF_size : spF.size ≤ 100000 := encode_size _
theorem within_eq (k : ByteArray) (hk : k.size ≤ 100000) : lintelref12_Within.f 281474976710700 k spF spT = some (inSpan k) := by
  unfold lintelref12_Within.f inSpan
  rw [stands spF k (by have := spF_size; omega) _ (by have := spF_size; omega)]
  simp only [Option.bind_some]
  by_cases h : cmpS spF k ≤ 0
  · rw [if_pos h, stands k spT (by omega) _ (by omega)]
    simp [h]
  · rw [if_neg h]; simp [h]
theorem ix_len (st : Int) : (ixOf st).length ≤ 100000 := by
  unfold ixOf
  split <;> simp
theorem ix_64 (st : Int) : ∀ x ∈ ixOf st, In64 x.f0 := by
  intro x hx
  unfold ixOf at hx
  split at hx
  · simp at hx
  · rw [List.mem_singleton.1 hx]; exact in64_small (n := 4) (by omega) (by omega)
theorem wr_cells {w0 w : World} {S0 : Nat → Prop} {F : List HP} {g n c : Nat} {xs : List Wr} (h : St w0 S0 w (HP.row kW 66 (.slice (some ⟨g, 0, none⟩) n c) xs :: F)) (j : Nat) (hj : j < xs.length) :
    w.cell? ⟨g, j * 3, none⟩ = some (.string xs[j].key) ∧ w.cell? ⟨g, j * 3 + 1, none⟩ = some (.string xs[j].val) ∧ w.cell? ⟨g, j * 3 + 2, none⟩ = some (.bool xs[j].dead) := by
  have hf := fun i hi => flat_cell (enc := fun x : Wr => [.string x.key, .string x.val, .bool x.dead]) kW_open h j hj i hi
  exact ⟨hf 0 (by simp), hf 1 (by simp), hf 2 (by simp)⟩
set_option maxHeartbeats 8000000 in
set_option maxRecDepth 20000 in
theorem do_at (g mb : Nat) (uK : Value) (GC : List Value) (R : HP) (rK : List C) (m0 : Ents) (k : Nat) (hk4 : k < 4) (hGl : GC.length = 5) (hGk : GC[k]? = some uK) (hG4 : GC[4]? = some (.map (some mb))) (hgo : RowG k rK) (oK oV : Int) (gone nw : Bool) (st : Int) (hk : IntKind.u64.wrap oK % 4 = (k : Int)) :
    Fun Try.prog 12 #[.pointer (some ⟨g, 0, none⟩), .agg #[.int .i64 oK, .int .i64 oV, .bool gone, .bool nw], .int .i64 st] (fun _ => True) [HP.obj g 28 GC, HP.row kC 73 uK rK, R, MP mb m0]
      (fun r => [HP.ex fun un : Value => HP.and (r = .tuple #[]) (Sl.all [HP.obj g 28 (GC.set k un), HP.row kC 73 un (if gone = true then [] else cellsC k (IntKind.u64.wrap oV % 3)), R, MP mb ((changes 1 2 (ixOf st) rK (if gone = true then [] else cellsC k (IntKind.u64.wrap oV % 3))).foldl apply1 m0)])]) := by
  intro w S hS hR
  have HS := St.start hS
  clear hS hR
  have hu1 := Try.underlying28
  have hu2 := Try.underlying25
  have hu3 := Try.underlying24
  have hu4 := Try.underlying39
  have hu5 := Try.underlying66
  have hu6 := Try.underlying52
  have hu7 := Try.underlying26
  have hU0 : 0 ≤ IntKind.u64.wrap oK := by rw [IntKind.wrap_u64]; omega
  have hV0 : 0 ≤ IntKind.u64.wrap oV := by rw [IntKind.wrap_u64]; omega
  have hV1 : IntKind.u64.wrap oV < 18446744073709551616 := by rw [IntKind.wrap_u64]; omega
  have hU1 : IntKind.u64.wrap oK < 18446744073709551616 := by rw [IntKind.wrap_u64]; omega
  obtain ⟨U, hU⟩ : ∃ U, IntKind.u64.wrap oK = U := ⟨_, rfl⟩
  obtain ⟨Y, hY⟩ : ∃ Y, IntKind.u64.wrap oV = Y := ⟨_, rfl⟩
  rw [hU] at hk hU0 hU1
  rw [hY] at hV0 hV1 ⊢
  obtain ⟨v, hv⟩ : ∃ v, Y % 3 = v := ⟨_, rfl⟩
  rw [hv]
  have hv0 : 0 ≤ v := by omega
  have hv1 : v < 3 := by omega
  have hkt : U.tmod 4 = (k : Int) := by rw [Int.tmod_eq_emod_of_nonneg hU0]; exact hk
  have hvt : Y.tmod 3 = v := by rw [Int.tmod_eq_emod_of_nonneg hV0]; exact hv
  have hwv : IntKind.u64.wrap v = v := by rw [IntKind.wrap_u64]; omega
  have hwi : IntKind.i64.wrap v = v := IntWalk.i64_in _ (by omega)
  have hwk : IntKind.u64.wrap (k : Int) = (k : Int) := by rw [IntKind.wrap_u64]; omega
  have hwki : IntKind.i64.wrap (k : Int) = (k : Int) := IntWalk.i64_in _ (by omega)
  have hkI : (k : Int) < 4 := by omega
  have hgx : RowG k (if gone = true then [] else cellsC k v) := by
    cases gone
    · exact .inr ⟨v, hv0, hv1, rfl⟩
    · exact .inl rfl
  generalize hx : (if gone = true then [] else cellsC k v) = x at hgx ⊢
  have HX := Aside0.mk hx
  clear hx
  have HGL := Aside0.mk hGl
  have HGK := Aside0.mk hGk
  have HG4 := Aside0.mk hG4
  have HGX := Aside0.mk hgx
  have HGO := Aside0.mk hgo
  have HU := Aside0.mk hU
  have HY := Aside0.mk hY
  clear hGl hGk hG4 hgx hgo hk hv
  go_enter Try.func12, Try.ntmps12
  go_wp2_with (first
    | ((with_reducible refine gate_dst (N := 4) rfl ?_); refine ev_box ?hg (N := 4) ?hd (cs := [.int .i64 oK, .int .i64 oV, .bool gone, .bool nw]) (t := 39) HS ?hr ?_; (case hd => rfl); (case hg => rfl); (case hr => first | (go_simp; done) | (go_simp; rfl)); intro ob w1 HS_ hg_ob; clear HS; have HS := HS_; clear HS_; have q_ob_0 : w1.cell? ⟨ob, 0, none⟩ = some (.int .i64 oK) := HS.cell 0; have q_ob_1 : w1.cell? ⟨ob, 1, none⟩ = some (.int .i64 oV) := HS.cell 1))
  refine (lintellaw20_cells.calls k v (cellsC k v) w1 rfl).mono ?_
  rintro e_ w2 ⟨un, rfl, hrn, hb⟩
  have HS_ := HS.made hrn hb
  clear HS
  have HS := HS_
  clear HS_
  clear q_ob_0 q_ob_1
  clear hrn hb
  have q_ob_2 : w2.cell? ⟨ob, 2, none⟩ = some (.bool gone) := (HS.mv 1).cell 2
  go_upto_if 23 with (fail)
  clear q_ob_2
  go_cut [7] (fun v7 wc => St w S wc [HP.row kC 73 v7 x, HP.obj ob 39 [.int .i64 oK, .int .i64 oV, .bool gone, .bool nw], HP.obj g 28 GC, HP.row kC 73 uK rK, R, MP mb m0])
  case first =>
    have hx := HX.out
    clear HX
    cases gone
    · simp only [Bool.false_eq_true, if_false] at hx
      subst hx
      go_wp2
      go_meet
      exact HS
    · simp only [if_true] at hx
      subst hx
      go_wp2
      go_meet
      exact (HS.out 0).nil_ kC 73
  case rest =>
    clear HS
    have HS := hcut
    clear hcut
    have hgo := HGO.out
    have hgx := HGX.out
    have hGk := HGK.out
    go_wp2_with fail
    refine start_ (n := 12) (S := fun w' => w'.cell? ⟨g, k, none⟩ = some uK) (ds := []) #[false, false, false, false, false, false, false, false, false, false, false, false] (by kernel_rfl) rfl rfl (((HS.drew.mv 2).cell k).trans HGK.out) (fun hHeld => ?_)
    refine pure_ (i := 0) (N := some 24) (v := ?_) (a' := ?_) #[true, false, false, false, false, false, false, false, false, false, false, false] rfl rfl (by kernel_rfl) (fun _ _ _ h => h) (Or.inl ⟨by rfl, ?_⟩) ?_ ?_
    rotate_left
    · intro w'
      go_simp
      with_reducible rfl
    rotate_left
    · simp only [Act.put, List.setIfInBounds_toArray, List.set_cons_zero, List.set_cons_succ, i64_w, i32_w]
      rfl
    refine pure_ (i := 2) (N := some 26) (v := ?_) (a' := ?_) #[true, false, true, false, false, false, false, false, false, false, false, false] rfl rfl (by kernel_rfl) (fun _ _ _ h => h) (Or.inl ⟨by rfl, ?_⟩) ?_ ?_
    rotate_left
    · intro w'
      go_simp
      with_reducible rfl
    rotate_left
    · simp only [Act.put, List.setIfInBounds_toArray, List.set_cons_zero, List.set_cons_succ, i64_w, i32_w]
      rfl
    refine pure_ (i := 3) (N := some 27) (v := ?_) (a' := ?_) #[true, false, true, true, false, false, false, false, false, false, false, false] rfl rfl (by kernel_rfl) (fun _ _ _ h => h) (Or.inl ⟨by rfl, ?_⟩) ?_ ?_
    rotate_left
    · intro w'
      go_simp
      with_reducible rfl
    rotate_left
    · simp only [Act.put, List.setIfInBounds_toArray, List.set_cons_zero, List.set_cons_succ, i64_w, i32_w]
      rfl
    refine pure_ (i := 4) (N := some 28) (v := ?_) (a' := ?_) #[true, false, true, true, true, false, false, false, false, false, false, false] rfl rfl (by kernel_rfl) (fun _ _ _ h => h) (Or.inl ⟨by rfl, ?_⟩) ?_ ?_
    rotate_left
    · intro w'
      go_simp
      with_reducible rfl
    rotate_left
    · simp only [Act.put, List.setIfInBounds_toArray, List.set_cons_zero, List.set_cons_succ, i64_w, i32_w]
      rfl
    refine pure_ (i := 5) (N := some 29) (v := ?_) (a' := ?_) #[true, false, true, true, true, true, false, false, false, false, false, false] rfl rfl (by kernel_rfl) (fun _ _ _ h => h) (Or.inl ⟨by rfl, ?_⟩) ?_ ?_
    rotate_left
    · intro w'
      go_simp
      with_reducible rfl
    rotate_left
    · simp only [Act.put, List.setIfInBounds_toArray, List.set_cons_zero, List.set_cons_succ, i64_w, i32_w]
      rfl
    refine pure_ (i := 6) (N := some 30) (v := ?_) (a' := ?_) #[true, false, true, true, true, true, true, false, false, false, false, false] rfl rfl (by kernel_rfl) (fun _ _ _ h => h) (Or.inl ⟨by rfl, ?_⟩) ?_ ?_
    rotate_left
    · intro w'
      go_simp
      with_reducible rfl
    rotate_left
    · simp only [Act.put, List.setIfInBounds_toArray, List.set_cons_zero, List.set_cons_succ, i64_w, i32_w]
      rfl
    refine pure_ (i := 8) (N := some 32) (v := ?_) (a' := ?_) #[true, false, true, true, true, true, true, false, true, false, false, false] rfl rfl (by kernel_rfl) (fun _ _ _ h => h) (Or.inl ⟨by rfl, ?_⟩) ?_ ?_
    rotate_left
    · intro w'
      go_simp
      with_reducible rfl
    rotate_left
    · simp only [Act.put, List.setIfInBounds_toArray, List.set_cons_zero, List.set_cons_succ, i64_w, i32_w]
      rfl
    refine pure_ (i := 11) (N := some 35) (v := ?_) (a' := ?_) #[true, false, true, true, true, true, true, false, true, false, false, true] rfl rfl (by kernel_rfl) (fun _ _ _ h => h) (Or.inl ⟨by rfl, ?_⟩) ?_ ?_
    rotate_left
    · intro w'
      go_simp
      with_reducible rfl
    rotate_left
    · simp only [Act.put, List.setIfInBounds_toArray, List.set_cons_zero, List.set_cons_succ, i64_w, i32_w]
      rfl
    refine take_ (i := 7) (N := some 31) (v := ?_) (a' := ?_) #[true, false, true, true, true, true, true, true, true, false, false, true] rfl rfl (by kernel_rfl) (fun _ _ _ h => h) (Or.inl ⟨by rfl, ?_⟩) hHeld ?_ ?_
    rotate_left
    · intro w' s0
      go_simp
      with_reducible rfl
    rotate_left
    · simp only [Act.put, List.setIfInBounds_toArray, List.set_cons_zero, List.set_cons_succ, i64_w, i32_w]
      rfl
    refine one_ (i := 1) (N := some 25) #[true, true, true, true, true, true, true, true, true, false, false, true] rfl rfl (by kernel_rfl) (by decide) (fun K hK => ?_)
    refine goes_ Try.func20 (by kernel_rfl) rfl #[.int .i64 st] (by rfl) rfl rfl (by simp only [List.map_toArray, List.map_cons, List.map_nil]; rfl) ?_
    refine (lintellaw20_table.calls st 1 ⟨#[116]⟩ colsC (ixOf st) [] _ (table_eq st)).mono ?_
    rintro e_ w15 ⟨q2, q3, q4, rfl, hq2, hq3, hq4, hb⟩
    refine ⟨_, rfl, ?_⟩
    have HS_ := St.made2 HS.drew hq2 hq3 rfl rfl (by decide) hb
    clear HS
    have HS := HS_
    clear HS_
    clear hq2 hq3 hq4 hb
    refine hK.out _ _ (((HS.mv 4).cell k).trans HGK.out) (fun hHeld => ?_)
    clear hK K
    refine norm_ (a' := ?_) ?_ ?_
    rotate_left
    · show Act.put _ (some 25) _ = _
      simp only [Act.put, List.setIfInBounds_toArray, List.set_cons_zero, List.set_cons_succ, i64_w, i32_w]
      rfl
    refine one_ (i := 9) (N := some 33) #[true, true, true, true, true, true, true, true, true, true, false, true] rfl rfl (by kernel_rfl) (by decide) (fun K hK => ?_)
    have HQ := ((((HS.mv 2).mv 5).mv 3).mv 3)
    clear HS
    refine goes_ Try.func19 (by kernel_rfl) rfl #[.agg #[.int .i64 1, .string ⟨#[116]⟩, q2, q3, q4], uK, u7] (by rfl) rfl rfl (by simp only [List.map_toArray, List.map_cons, List.map_nil]; rfl) ?_
    refine ((changes_fun 1 ⟨#[116]⟩ q2 q3 q4 uK u7 colsC (ixOf st) rK x (in64_small (by omega) (by omega)) (by decide) (by decide) (ix_len st) (by have := rowG_len HGO.out; omega) (by have := rowG_len HGX.out; omega) (ix_64 st) (rowG_64 (by omega) HGO.out) (rowG_64 (by omega) HGX.out) 2 rfl).call (F := [HP.obj ob 39 [.int .i64 oK, .int .i64 oV, .bool gone, .bool nw], HP.obj g 28 GC, R, MP mb m0]) HQ (fun _ _ _ _ => trivial)).mono ?_
    rintro e_ w16 ⟨uw, rfl, HS⟩
    clear HQ
    obtain ⟨Aw, cw, ruw, hcw, hCw⟩ := St.row_C HS
    subst ruw
    clear hCw
    refine ⟨_, rfl, ?_⟩
    refine hK.out _ _ (((HS.mv 6).cell k).trans HGK.out) (fun hHeld => ?_)
    clear hK K
    refine norm_ (a' := ?_) ?_ ?_
    rotate_left
    · show Act.put _ (some 33) _ = _
      simp only [Act.put, List.setIfInBounds_toArray, List.set_cons_zero, List.set_cons_succ, i64_w, i32_w]
      rfl
    refine pure_ (i := 10) (N := some 34) (v := ?_) (a' := ?_) #[true, true, true, true, true, true, true, true, true, true, true, true] rfl rfl (by kernel_rfl) (fun _ _ _ h => h) (Or.inl ⟨by rfl, ?_⟩) ?_ ?_
    rotate_left
    · intro w'
      go_simp
      with_reducible rfl
    rotate_left
    · simp only [Act.put, List.setIfInBounds_toArray, List.set_cons_zero, List.set_cons_succ, i64_w, i32_w]
      rfl
    refine done_ (by kernel_rfl) ?_
    clear hHeld
    have HS_ := (((HS.out 2).out 1).out 3)
    clear HS
    have HS := HS_
    clear HS_
    obtain ⟨hwl, hwk⟩ := ch_keys st rK x
    change St w S w16 (HP.row kW 66 (.slice Aw _ cw) (changes 1 2 (ixOf st) rK x) :: _) at HS
    generalize hws : changes 1 2 (ixOf st) rK x = ws at HS hwl hwk
    have HWS := Aside0.mk hws
    clear hws hgo hgx hGk
    have HS_ := ((((((HS.mv 5).mv 3).mv 5).mv 4).mv 5).mv 5)
    clear HS
    have HS := HS_
    clear HS_
    go_wp2_with fail
    go_loopw [35] (fun v35 w' => ∃ j : Nat, j ≤ ws.length ∧ v35 = .int .i64 j ∧ St w S w' [HP.row kW 66 (.slice Aw ws.length cw) ws, HP.obj g 28 GC, HP.row kC 73 uK rK, R, HP.row kC 73 u7 x, MP mb ((ws.take j).foldl apply1 m0)]) (fun v35 _ => ws.length - (intOf v35).toNat)
    case atStart => exact ⟨0, Nat.zero_le _, rfl, HS⟩
    case round =>
      clear HS
      obtain ⟨j, hj, rfl, HS⟩ := hrel
      by_cases hlt : j < ws.length
      · have hltI : (j : Int) < (ws.length : Int) := by omega
        obtain ⟨gw, cw2, ev⟩ := St.row_form HS (by omega)
        simp only [Value.slice.injEq] at ev
        obtain ⟨rfl, _, rfl⟩ := ev
        obtain ⟨x_, hx2⟩ : ∃ x_, ws[j] = x_ := ⟨_, rfl⟩
        obtain ⟨i0, i1, i2⟩ := wr_cells HS j hlt
        rw [hx2] at i0 i1 i2
        have hkx := hwk x_ (by rw [← hx2]; exact List.getElem_mem hlt)
        have hnext : (ws.take (j + 1)).foldl apply1 m0 = apply1 ((ws.take j).foldl apply1 m0) x_ := by rw [List.take_succ_eq_append_getElem hlt, hx2, List.foldl_append]; rfl
        have HNX := Aside0.mk hnext
        clear hnext hx2
        generalize (ws.take j).foldl apply1 m0 = m at HS HNX
        go_wp2_with (first
          | ((with_reducible refine gate_dst (N := 9) rfl ?_); refine ev_box ?hg (N := 9) ?hd (cs := [.string ⟨#[]⟩, .string ⟨#[]⟩, .bool false]) (t := 66) HS ?hr ?_; (case hd => rfl); (case hg => rfl); (case hr => first | (go_simp; done) | (go_simp; rfl)); intro wb w20 HS_ hg_wb; clear HS; have HS := HS_; clear HS_; clear i0 i1 i2)
          | ((with_reducible refine gate_ (.store 66 (.tmp 9) (.tmp 38)) rfl ?_); refine ev_store rfl rfl 66 (.tmp 9) (.tmp 38) rfl HS rfl rfl (seg := [.string x_.key, .string x_.val, .bool x_.dead]) rfl ?ht rfl ?hf ?_; (case ht => kernel_rfl); (case hf => first | (simp; done) | (simp [splice]; done)); intro w21 HS_; clear HS; have HS := HS_; clear HS_))
        refine start_ (n := 5) (S := fun w' => w'.cell? ⟨wb, 0, none⟩ = some (.string x_.key)) (ds := []) #[false, false, false, false, false] (by kernel_rfl) rfl rfl (HS.drew.cell 0) (fun hHeld => ?_)
        refine pure_ (i := 0) (N := some 39) (v := ?_) (a' := ?_) #[true, false, false, false, false] rfl rfl (by kernel_rfl) (fun _ _ _ h => h) (Or.inl ⟨by rfl, ?_⟩) ?_ ?_
        rotate_left
        · intro w'
          go_simp
          with_reducible rfl
        rotate_left
        · simp only [Act.put, List.setIfInBounds_toArray, List.set_cons_zero, List.set_cons_succ, i64_w, i32_w]
          rfl
        refine take_ (i := 1) (N := some 40) (v := ?_) (a' := ?_) #[true, true, false, false, false] rfl rfl (by kernel_rfl) (fun _ _ _ h => h) (Or.inl ⟨by rfl, ?_⟩) hHeld ?_ ?_
        rotate_left
        · intro w' s0
          go_simp
          with_reducible rfl
        rotate_left
        · simp only [Act.put, List.setIfInBounds_toArray, List.set_cons_zero, List.set_cons_succ, i64_w, i32_w]
          rfl
        refine one_ (i := 2) (N := some 41) #[true, true, true, false, false] rfl rfl (by kernel_rfl) (by decide) (fun K hK => ?_)
        refine goes_ Try.func28 (by kernel_rfl) rfl #[.int .i64 4] (by rfl) rfl rfl (by simp only [List.map_toArray, List.map_cons, List.map_nil]; rfl) ?_
        refine (rows_Index.calls 300 4 spF spT _ index_eq).mono ?_
        rintro e_ w22 ⟨rfl, hb⟩
        refine ⟨_, rfl, ?_⟩
        have HS_ := HS.drew.later hb
        clear HS
        have HS := HS_
        clear HS_
        clear hb
        refine hK.out _ _ (HS.cell 0) (fun hHeld => ?_)
        clear hK K
        refine norm_ (a' := ?_) ?_ ?_
        rotate_left
        · show Act.put _ (some 41) _ = _
          simp only [Act.put, List.setIfInBounds_toArray, List.set_cons_zero, List.set_cons_succ, i64_w, i32_w]
          rfl
        refine one_ (i := 3) (N := some 42) #[true, true, true, true, false] rfl rfl (by kernel_rfl) (by decide) (fun K hK => ?_)
        refine goes_ Try.func27 (by kernel_rfl) rfl #[.string x_.key, .agg #[.string spF, .string spT]] (by rfl) rfl rfl (by simp only [List.map_toArray, List.map_cons, List.map_nil]; rfl) ?_
        refine (lintelref12_Within.calls 281474976710700 x_.key spF spT (inSpan x_.key) _ (within_eq x_.key hkx)).mono ?_
        rintro e_ w23 ⟨rfl, hb⟩
        refine ⟨_, rfl, ?_⟩
        have HS_ := HS.later hb
        clear HS hb
        have HS := HS_
        clear HS_
        refine hK.out _ _ (HS.cell 0) (fun hHeld => ?_)
        clear hK K
        refine norm_ (a' := ?_) ?_ ?_
        rotate_left
        · show Act.put _ (some 42) _ = _
          simp only [Act.put, List.setIfInBounds_toArray, List.set_cons_zero, List.set_cons_succ, i64_w, i32_w]
          rfl
        refine pure_ (i := 4) (N := some 43) (v := ?_) (a' := ?_) #[true, true, true, true, true] rfl rfl (by kernel_rfl) (fun _ _ _ h => h) (Or.inl ⟨by rfl, ?_⟩) ?_ ?_
        rotate_left
        · intro w'
          go_simp
          with_reducible rfl
        rotate_left
        · simp only [Act.put, List.setIfInBounds_toArray, List.set_cons_zero, List.set_cons_succ, i64_w, i32_w]
          rfl
        refine done_ (by kernel_rfl) ?_
        clear hHeld
        cases hin : inSpan x_.key
        · have hap : apply1 m x_ = m := by unfold apply1; rw [if_neg (by rw [hin]; decide)]
          clear hin
          go_wp2
          go_roundw
          case rel => exact ⟨j + 1, by omega, by go_num, by rw [HNX.out, hap]; exact (HS.out 0)⟩
          case measure => simp [intOf]; omega
        · cases hdd : x_.dead
          · have hap : apply1 m x_ = mput m x_.key true := by unfold apply1; rw [if_pos hin, if_neg (by rw [hdd]; decide)]
            have HAP := Aside0.mk hap
            clear hap hin
            have q_wb_2 : w23.cell? ⟨wb, 2, none⟩ = some (.bool false) := by rw [← hdd]; exact HS.cell 2
            clear hdd
            go_wp2_with fail
            clear q_wb_2
            refine start_ (n := 7) (S := fun w' => w'.cell? ⟨g, 4, none⟩ = some (.map (some mb)) ∧ w'.cell? ⟨wb, 0, none⟩ = some (.string x_.key)) (ds := []) #[false, false, false, false, false, false, false] (by kernel_rfl) rfl rfl ⟨((HS.drew.mv 2).cell 4).trans HG4.out, HS.drew.cell 0⟩ (fun hHeld => ?_)
            refine pure_ (i := 0) (N := some 52) (v := ?_) (a' := ?_) #[true, false, false, false, false, false, false] rfl rfl (by kernel_rfl) (fun _ _ _ h => h) (Or.inl ⟨by rfl, ?_⟩) ?_ ?_
            rotate_left
            · intro w'
              go_simp
              with_reducible rfl
            rotate_left
            · simp only [Act.put, List.setIfInBounds_toArray, List.set_cons_zero, List.set_cons_succ, i64_w, i32_w]
              rfl
            refine pure_ (i := 1) (N := some 53) (v := ?_) (a' := ?_) #[true, true, false, false, false, false, false] rfl rfl (by kernel_rfl) (fun _ _ _ h => h) (Or.inl ⟨by rfl, ?_⟩) ?_ ?_
            rotate_left
            · intro w'
              go_simp
              with_reducible rfl
            rotate_left
            · simp only [Act.put, List.setIfInBounds_toArray, List.set_cons_zero, List.set_cons_succ, i64_w, i32_w]
              rfl
            refine pure_ (i := 2) (N := some 54) (v := ?_) (a' := ?_) #[true, true, true, false, false, false, false] rfl rfl (by kernel_rfl) (fun _ _ _ h => h) (Or.inl ⟨by rfl, ?_⟩) ?_ ?_
            rotate_left
            · intro w'
              go_simp
              with_reducible rfl
            rotate_left
            · simp only [Act.put, List.setIfInBounds_toArray, List.set_cons_zero, List.set_cons_succ, i64_w, i32_w]
              rfl
            refine pure_ (i := 4) (N := some 56) (v := ?_) (a' := ?_) #[true, true, true, false, true, false, false] rfl rfl (by kernel_rfl) (fun _ _ _ h => h) (Or.inl ⟨by rfl, ?_⟩) ?_ ?_
            rotate_left
            · intro w'
              go_simp
              with_reducible rfl
            rotate_left
            · simp only [Act.put, List.setIfInBounds_toArray, List.set_cons_zero, List.set_cons_succ, i64_w, i32_w]
              rfl
            refine take_ (i := 3) (N := some 55) (v := ?_) (a' := ?_) #[true, true, true, true, true, false, false] rfl rfl (by kernel_rfl) (fun _ _ _ h => h) (Or.inl ⟨by rfl, ?_⟩) hHeld ?_ ?_
            rotate_left
            · rintro w' ⟨s0, s1⟩
              go_simp
              with_reducible rfl
            rotate_left
            · simp only [Act.put, List.setIfInBounds_toArray, List.set_cons_zero, List.set_cons_succ, i64_w, i32_w]
              rfl
            refine take_ (i := 5) (N := some 57) (v := ?_) (a' := ?_) #[true, true, true, true, true, true, false] rfl rfl (by kernel_rfl) (fun _ _ _ h => h) (Or.inl ⟨by rfl, ?_⟩) hHeld ?_ ?_
            rotate_left
            · rintro w' ⟨s0, s1⟩
              go_simp
              with_reducible rfl
            rotate_left
            · simp only [Act.put, List.setIfInBounds_toArray, List.set_cons_zero, List.set_cons_succ, i64_w, i32_w]
              rfl
            refine one_ (i := 6) (N := none) #[true, true, true, true, true, true, true] rfl rfl (by kernel_rfl) (by decide) (fun K hK => ?_)
            obtain ⟨w24, hmu, HS_⟩ := (HS.drew.mv 6).map_store (P := Try.prog) (t := 26) (kt := 9) (et := 4) Try.underlying26 Try.underlying9 x_.key true
            clear HS
            have HS := HS_
            clear HS_
            refine skip_ (w1 := w24) (by rfl) rfl ?hrun ?_
            case hrun => first | (go_simp; done) | (go_simp; rfl)
            refine hK.out _ _ ⟨((HS.mv 3).cell 4).trans HG4.out, (HS.mv 1).cell 0⟩ (fun hHeld => ?_)
            clear hK K
            refine done_ (by kernel_rfl) ?_
            clear hHeld
            have HS_ := (HS.out 1)
            clear HS
            have HS := HS_
            clear HS_
            go_wp2
            go_roundw
            case rel => exact ⟨j + 1, by omega, by go_num, by rw [HNX.out, HAP.out]; exact (((((HS.mv 5).mv 5).mv 5).mv 5).mv 5)⟩
            case measure => simp [intOf]; omega
          · have hap : apply1 m x_ = mdel m x_.key := by unfold apply1; rw [if_pos hin, if_pos hdd]
            have HAP := Aside0.mk hap
            clear hap hin
            have q_wb_2 : w23.cell? ⟨wb, 2, none⟩ = some (.bool true) := by rw [← hdd]; exact HS.cell 2
            clear hdd
            go_wp2_with fail
            clear q_wb_2
            refine start_ (n := 7) (S := fun w' => w'.cell? ⟨g, 4, none⟩ = some (.map (some mb)) ∧ w'.cell? ⟨wb, 0, none⟩ = some (.string x_.key)) (ds := []) #[false, false, false, false, false, false, false] (by kernel_rfl) rfl rfl ⟨((HS.drew.mv 2).cell 4).trans HG4.out, HS.drew.cell 0⟩ (fun hHeld => ?_)
            refine pure_ (i := 0) (N := some 46) (v := ?_) (a' := ?_) #[true, false, false, false, false, false, false] rfl rfl (by kernel_rfl) (fun _ _ _ h => h) (Or.inl ⟨by rfl, ?_⟩) ?_ ?_
            rotate_left
            · intro w'
              go_simp
              with_reducible rfl
            rotate_left
            · simp only [Act.put, List.setIfInBounds_toArray, List.set_cons_zero, List.set_cons_succ, i64_w, i32_w]
              rfl
            refine pure_ (i := 1) (N := some 47) (v := ?_) (a' := ?_) #[true, true, false, false, false, false, false] rfl rfl (by kernel_rfl) (fun _ _ _ h => h) (Or.inl ⟨by rfl, ?_⟩) ?_ ?_
            rotate_left
            · intro w'
              go_simp
              with_reducible rfl
            rotate_left
            · simp only [Act.put, List.setIfInBounds_toArray, List.set_cons_zero, List.set_cons_succ, i64_w, i32_w]
              rfl
            refine pure_ (i := 2) (N := some 48) (v := ?_) (a' := ?_) #[true, true, true, false, false, false, false] rfl rfl (by kernel_rfl) (fun _ _ _ h => h) (Or.inl ⟨by rfl, ?_⟩) ?_ ?_
            rotate_left
            · intro w'
              go_simp
              with_reducible rfl
            rotate_left
            · simp only [Act.put, List.setIfInBounds_toArray, List.set_cons_zero, List.set_cons_succ, i64_w, i32_w]
              rfl
            refine pure_ (i := 4) (N := some 50) (v := ?_) (a' := ?_) #[true, true, true, false, true, false, false] rfl rfl (by kernel_rfl) (fun _ _ _ h => h) (Or.inl ⟨by rfl, ?_⟩) ?_ ?_
            rotate_left
            · intro w'
              go_simp
              with_reducible rfl
            rotate_left
            · simp only [Act.put, List.setIfInBounds_toArray, List.set_cons_zero, List.set_cons_succ, i64_w, i32_w]
              rfl
            refine take_ (i := 3) (N := some 49) (v := ?_) (a' := ?_) #[true, true, true, true, true, false, false] rfl rfl (by kernel_rfl) (fun _ _ _ h => h) (Or.inl ⟨by rfl, ?_⟩) hHeld ?_ ?_
            rotate_left
            · rintro w' ⟨s0, s1⟩
              go_simp
              with_reducible rfl
            rotate_left
            · simp only [Act.put, List.setIfInBounds_toArray, List.set_cons_zero, List.set_cons_succ, i64_w, i32_w]
              rfl
            refine take_ (i := 5) (N := some 51) (v := ?_) (a' := ?_) #[true, true, true, true, true, true, false] rfl rfl (by kernel_rfl) (fun _ _ _ h => h) (Or.inl ⟨by rfl, ?_⟩) hHeld ?_ ?_
            rotate_left
            · rintro w' ⟨s0, s1⟩
              go_simp
              with_reducible rfl
            rotate_left
            · simp only [Act.put, List.setIfInBounds_toArray, List.set_cons_zero, List.set_cons_succ, i64_w, i32_w]
              rfl
            refine one_ (i := 6) (N := none) #[true, true, true, true, true, true, true] rfl rfl (by kernel_rfl) (by decide) (fun K hK => ?_)
            obtain ⟨w24, hdel, HS_⟩ := (HS.drew.mv 6).map_drop (P := Try.prog) (t := 26) (kt := 9) Try.underlying26 Try.underlying9 0 x_.key
            have hdel' : ∀ ty, (Builtin.delete_ #[26, 9] ty #[.map (some mb), .string x_.key]).run Try.prog _ = .ok (.tuple #[]) w24 := fun _ => hdel
            clear HS
            have HS := HS_
            clear HS_
            refine value_ (w1 := w24) (v := .tuple #[]) (by rfl) rfl ?hrun ?_
            case hrun => first | (go_simp; done) | (go_simp; exact hdel)
            refine hK.out _ _ ⟨((HS.mv 3).cell 4).trans HG4.out, (HS.mv 1).cell 0⟩ (fun hHeld => ?_)
            clear hK K
            refine done_ (by kernel_rfl) ?_
            clear hHeld
            have HS_ := (HS.out 1)
            clear HS
            have HS := HS_
            clear HS_
            go_wp2
            go_roundw
            case rel => exact ⟨j + 1, by omega, by go_num, by rw [HNX.out, HAP.out]; exact (((((HS.mv 5).mv 5).mv 5).mv 5).mv 5)⟩
            case measure => simp [intOf]; omega
      · have hjj : j = ws.length := by omega
        subst hjj
        rw [List.take_length] at HS
        have HS_ := (HS.out 0)
        clear HS
        have HS := HS_
        clear HS_
        obtain ⟨An, cn, run, hcn, hCn⟩ := St.row_C (HS.mv 3)
        subst run
        clear hCn
        go_wp2_with (first
          | ((with_reducible refine gate_ (.store 24 (.tmp 64) (.tmp 61)) rfl ?_); refine ev_store rfl rfl 24 (.tmp 64) (.tmp 61) rfl HS rfl rfl (seg := [_]) rfl ?ht rfl ?hf ?_; (case ht => kernel_rfl); (case hf => have := HGL.out; simp; omega); intro w30 HS_; clear HS; have HS := HS_; clear HS_))
        go_end0
        refine ⟨_, rfl, ?_⟩
        rw [HWS.out]
        exact St.ex_in _ (St.and_in rfl (St.unall (L := [_, _, _, _]) (((((HS.out 1).mv 3).mv 2).mv 3).mv 3)))
theorem do_0 (g mb : Nat) (u0 u1 u2 u3 : Value) (s : Sta) (hs : SG s) (oK oV : Int) (gone nw : Bool) (st : Int) (hk : IntKind.u64.wrap oK % 4 = 0) :
    Fun Try.prog 12 #[.pointer (some ⟨g, 0, none⟩), .agg #[.int .i64 oK, .int .i64 oV, .bool gone, .bool nw], .int .i64 st] (fun _ => True) [WQ g mb u0 u1 u2 u3 s] (fun r => [HP.ex fun u : Value => HP.and (r = .tuple #[]) (WQ g mb u u1 u2 u3 (doS st s 0 (if gone = true then [] else cellsC 0 (IntKind.u64.wrap oV % 3))))]) := by
  intro w S hS hR
  have HS := WQ_open (St.start hS)
  refine ((do_at g mb u0 [u0, u1, u2, u3, .map (some mb)] (Sl.all [HP.row kC 73 u1 s.r1, HP.row kC 73 u2 s.r2, HP.row kC 73 u3 s.r3]) s.r0 s.m 0 (by omega) rfl rfl rfl (hs 0 (by omega)) oK oV gone nw st hk).call (F := []) (((((St.unall (L := [HP.row kC 73 u1 s.r1, HP.row kC 73 u2 s.r2, HP.row kC 73 u3 s.r3]) ((((((HS.mv 5).mv 2).mv 2).mv 5).mv 5).mv 5)).mv 3).mv 1).mv 3).mv 3) (fun _ _ _ _ => trivial)).mono ?_
  rintro e_ w1 ⟨v, rfl, H1⟩
  obtain ⟨u, H2⟩ := St.ex_ H1
  obtain ⟨hv, H3⟩ := St.and_ H2
  exact ⟨v, rfl, St.ex_in u (St.and_in hv (WQ_shut (((((((St.all_ (L := [HP.row kC 73 u1 s.r1, HP.row kC 73 u2 s.r2, HP.row kC 73 u3 s.r3]) (((((St.all_ (L := [_, _, _, _]) H3).mv 3).mv 2).mv 2).mv 3)).mv 5).mv 3).mv 3).mv 3).mv 5).mv 5)))⟩
theorem do_1 (g mb : Nat) (u0 u1 u2 u3 : Value) (s : Sta) (hs : SG s) (oK oV : Int) (gone nw : Bool) (st : Int) (hk : IntKind.u64.wrap oK % 4 = 1) :
    Fun Try.prog 12 #[.pointer (some ⟨g, 0, none⟩), .agg #[.int .i64 oK, .int .i64 oV, .bool gone, .bool nw], .int .i64 st] (fun _ => True) [WQ g mb u0 u1 u2 u3 s] (fun r => [HP.ex fun u : Value => HP.and (r = .tuple #[]) (WQ g mb u0 u u2 u3 (doS st s 1 (if gone = true then [] else cellsC 1 (IntKind.u64.wrap oV % 3))))]) := by
  intro w S hS hR
  have HS := WQ_open (St.start hS)
  refine ((do_at g mb u1 [u0, u1, u2, u3, .map (some mb)] (Sl.all [HP.row kC 73 u0 s.r0, HP.row kC 73 u2 s.r2, HP.row kC 73 u3 s.r3]) s.r1 s.m 1 (by omega) rfl rfl rfl (hs 1 (by omega)) oK oV gone nw st hk).call (F := []) (((((St.unall (L := [HP.row kC 73 u0 s.r0, HP.row kC 73 u2 s.r2, HP.row kC 73 u3 s.r3]) ((((((HS.mv 5).mv 3).mv 2).mv 5).mv 5).mv 5)).mv 3).mv 1).mv 3).mv 3) (fun _ _ _ _ => trivial)).mono ?_
  rintro e_ w1 ⟨v, rfl, H1⟩
  obtain ⟨u, H2⟩ := St.ex_ H1
  obtain ⟨hv, H3⟩ := St.and_ H2
  exact ⟨v, rfl, St.ex_in u (St.and_in hv (WQ_shut (((((((St.all_ (L := [HP.row kC 73 u0 s.r0, HP.row kC 73 u2 s.r2, HP.row kC 73 u3 s.r3]) (((((St.all_ (L := [_, _, _, _]) H3).mv 3).mv 2).mv 2).mv 3)).mv 5).mv 3).mv 3).mv 5).mv 4).mv 5)))⟩
theorem do_2 (g mb : Nat) (u0 u1 u2 u3 : Value) (s : Sta) (hs : SG s) (oK oV : Int) (gone nw : Bool) (st : Int) (hk : IntKind.u64.wrap oK % 4 = 2) :
    Fun Try.prog 12 #[.pointer (some ⟨g, 0, none⟩), .agg #[.int .i64 oK, .int .i64 oV, .bool gone, .bool nw], .int .i64 st] (fun _ => True) [WQ g mb u0 u1 u2 u3 s] (fun r => [HP.ex fun u : Value => HP.and (r = .tuple #[]) (WQ g mb u0 u1 u u3 (doS st s 2 (if gone = true then [] else cellsC 2 (IntKind.u64.wrap oV % 3))))]) := by
  intro w S hS hR
  have HS := WQ_open (St.start hS)
  refine ((do_at g mb u2 [u0, u1, u2, u3, .map (some mb)] (Sl.all [HP.row kC 73 u0 s.r0, HP.row kC 73 u1 s.r1, HP.row kC 73 u3 s.r3]) s.r2 s.m 2 (by omega) rfl rfl rfl (hs 2 (by omega)) oK oV gone nw st hk).call (F := []) (((((St.unall (L := [HP.row kC 73 u0 s.r0, HP.row kC 73 u1 s.r1, HP.row kC 73 u3 s.r3]) ((((((HS.mv 5).mv 4).mv 2).mv 5).mv 5).mv 5)).mv 3).mv 1).mv 3).mv 3) (fun _ _ _ _ => trivial)).mono ?_
  rintro e_ w1 ⟨v, rfl, H1⟩
  obtain ⟨u, H2⟩ := St.ex_ H1
  obtain ⟨hv, H3⟩ := St.and_ H2
  exact ⟨v, rfl, St.ex_in u (St.and_in hv (WQ_shut (((((((St.all_ (L := [HP.row kC 73 u0 s.r0, HP.row kC 73 u1 s.r1, HP.row kC 73 u3 s.r3]) (((((St.all_ (L := [_, _, _, _]) H3).mv 3).mv 2).mv 2).mv 3)).mv 5).mv 3).mv 5).mv 4).mv 4).mv 5)))⟩
theorem do_3 (g mb : Nat) (u0 u1 u2 u3 : Value) (s : Sta) (hs : SG s) (oK oV : Int) (gone nw : Bool) (st : Int) (hk : IntKind.u64.wrap oK % 4 = 3) :
    Fun Try.prog 12 #[.pointer (some ⟨g, 0, none⟩), .agg #[.int .i64 oK, .int .i64 oV, .bool gone, .bool nw], .int .i64 st] (fun _ => True) [WQ g mb u0 u1 u2 u3 s] (fun r => [HP.ex fun u : Value => HP.and (r = .tuple #[]) (WQ g mb u0 u1 u2 u (doS st s 3 (if gone = true then [] else cellsC 3 (IntKind.u64.wrap oV % 3))))]) := by
  intro w S hS hR
  have HS := WQ_open (St.start hS)
  refine ((do_at g mb u3 [u0, u1, u2, u3, .map (some mb)] (Sl.all [HP.row kC 73 u0 s.r0, HP.row kC 73 u1 s.r1, HP.row kC 73 u2 s.r2]) s.r3 s.m 3 (by omega) rfl rfl rfl (hs 3 (by omega)) oK oV gone nw st hk).call (F := []) (((((St.unall (L := [HP.row kC 73 u0 s.r0, HP.row kC 73 u1 s.r1, HP.row kC 73 u2 s.r2]) ((((((HS.mv 5).mv 5).mv 2).mv 5).mv 5).mv 5)).mv 3).mv 1).mv 3).mv 3) (fun _ _ _ _ => trivial)).mono ?_
  rintro e_ w1 ⟨v, rfl, H1⟩
  obtain ⟨u, H2⟩ := St.ex_ H1
  obtain ⟨hv, H3⟩ := St.and_ H2
  exact ⟨v, rfl, St.ex_in u (St.and_in hv (WQ_shut (((((((St.all_ (L := [HP.row kC 73 u0 s.r0, HP.row kC 73 u1 s.r1, HP.row kC 73 u2 s.r2]) (((((St.all_ (L := [_, _, _, _]) H3).mv 3).mv 2).mv 2).mv 3)).mv 5).mv 5).mv 4).mv 4).mv 4).mv 5)))⟩
theorem do_fun (g mb : Nat) (s : Sta) (hs : SG s) (o : OpR) (st : Int) :
    FunV Try.prog 12 #[.pointer (some ⟨g, 0, none⟩), .agg #[.int .i64 o.f0, .int .i64 o.f1, .bool o.f2, .bool o.f3], .int .i64 st] (fun _ => True) [WP g mb s] (.tuple #[]) [WP g mb (doO st s o)] := by
  intro w S hS hR
  obtain ⟨u0, u1, u2, u3, HW⟩ := WP_open (St.start hS)
  have HS := WQ_shut HW
  clear HW hS
  have hk := opK_lt o
  have h0 : IntKind.u64.wrap o.f0 % 4 = (opK o : Int) := by unfold opK; rw [IntKind.wrap_u64]; omega
  unfold doO opX
  rcases (show opK o = 0 ∨ opK o = 1 ∨ opK o = 2 ∨ opK o = 3 by omega) with e | e | e | e <;> rw [e] at h0 ⊢
  · refine ((do_0 g mb u0 u1 u2 u3 s hs o.f0 o.f1 o.f2 o.f3 st h0).call (F := []) HS (fun _ _ _ _ => trivial)).mono ?_
    rintro e_ w1 ⟨v, rfl, H1⟩
    obtain ⟨u, H2⟩ := St.ex_ H1
    obtain ⟨hv, H3⟩ := St.and_ H2
    exact ⟨by rw [hv], St.ex_in _ (St.ex_in _ (St.ex_in _ (St.ex_in _ H3)))⟩
  · refine ((do_1 g mb u0 u1 u2 u3 s hs o.f0 o.f1 o.f2 o.f3 st h0).call (F := []) HS (fun _ _ _ _ => trivial)).mono ?_
    rintro e_ w1 ⟨v, rfl, H1⟩
    obtain ⟨u, H2⟩ := St.ex_ H1
    obtain ⟨hv, H3⟩ := St.and_ H2
    exact ⟨by rw [hv], St.ex_in _ (St.ex_in _ (St.ex_in _ (St.ex_in _ H3)))⟩
  · refine ((do_2 g mb u0 u1 u2 u3 s hs o.f0 o.f1 o.f2 o.f3 st h0).call (F := []) HS (fun _ _ _ _ => trivial)).mono ?_
    rintro e_ w1 ⟨v, rfl, H1⟩
    obtain ⟨u, H2⟩ := St.ex_ H1
    obtain ⟨hv, H3⟩ := St.and_ H2
    exact ⟨by rw [hv], St.ex_in _ (St.ex_in _ (St.ex_in _ (St.ex_in _ H3)))⟩
  · refine ((do_3 g mb u0 u1 u2 u3 s hs o.f0 o.f1 o.f2 o.f3 st h0).call (F := []) HS (fun _ _ _ _ => trivial)).mono ?_
    rintro e_ w1 ⟨v, rfl, H1⟩
    obtain ⟨u, H2⟩ := St.ex_ H1
    obtain ⟨hv, H3⟩ := St.and_ H2
    exact ⟨by rw [hv], St.ex_in _ (St.ex_in _ (St.ex_in _ (St.ex_in _ H3)))⟩
end Go.Proofs.Ytkhbmamcbhjafaa.Keys
