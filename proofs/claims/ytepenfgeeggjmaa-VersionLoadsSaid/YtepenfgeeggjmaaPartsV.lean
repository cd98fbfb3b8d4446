/- The law of the parts, walked. -/
import Derived.Test.YtepenfgeeggjmaaPastO
import Derived.Deep.DeepCutAuto
namespace Go.Proofs.Ytepenfgeeggjmaa.Ver
open Go.RowKit Go.Proofs.YtepenfgeeggjmaaW.PrintWords Go.Proofs.YtepenfgeeggjmaaW.PrintLast Go.Proofs.YtepenfgeeggjmaaW.PrintMore Go.Proofs.Ytepenfgeeggjmaa.Sl Go.Proofs.Ytepenfgeeggjmaa.Str Go.Proofs.Ytepenfgeeggjmaa.Row
set_option linter.unusedVariables false
set_option linter.unusedSimpArgs false
theorem gt_yes {a b : ByteArray} (h : (!Op.bytesLess a.toList b.toList) = true ∧ (!a.toList == b.toList) = true) : 0 < cmpS a b := by
  obtain ⟨h1, h2⟩ := h
  rw [bytesLess_cmp] at h1
  rw [beq_cmp] at h2
  unfold cmpS
  simp at h1 h2
  omega
theorem gt_no {a b : ByteArray} (h : (!Op.bytesLess a.toList b.toList) = false ∨ (!a.toList == b.toList) = false) : cmpS a b ≤ 0 := by
  rw [bytesLess_cmp, beq_cmp] at h
  unfold cmpS
  simp at h
  omega
theorem span_sized (rows : List Rw) (n : Nat) (hk : Kept rows n) (a b : ByteArray) (ts : Int) : ∀ x ∈ span rows a b ts, x.key.size ≤ 140737488351232 := by
  intro x hx
  unfold span at hx
  obtain ⟨r, hr, e⟩ := List.mem_filterMap.1 hx
  have hr1 := (List.mem_filter.1 hr).1
  unfold hitOf at e
  cases hu : upTo r.vs ts with
  | none => rw [hu] at e; cases e
  | some v =>
    rw [hu] at e
    by_cases hd : v.dead = true
    · simp [hd] at e
    · simp only [hd, if_false, Bool.false_eq_true, Option.some.injEq] at e
      subst e
      exact (hk.each r hr1).2
/-- What the loop asks of the hits. -/
structure Right (xs : List Ht) (a b : ByteArray) (ts : Int) : Prop where
  at_ : ∀ i (h : i < xs.length), xs[i].ts ≤ ts ∧ 1 ≤ xs[i].ts ∧ inside xs[i].key a b = true ∧ xs[i].key.size ≤ 140737488351232
  up : ∀ i (h : i + 1 < xs.length), Op.bytesLess (xs[i]'(by omega)).key.toList xs[i + 1].key.toList = true
theorem span_right (rows : List Rw) (n : Nat) (hk : Kept rows n) (a b : ByteArray) (ts : Int) : Right (span rows a b ts) a b ts := by
  refine ⟨fun i h => ?_, fun i h => ?_⟩
  · have h1 := span_in rows hk.full a b ts _ (List.getElem_mem h)
    exact ⟨h1.1, h1.2.1, h1.2.2, span_sized rows n hk a b ts _ (List.getElem_mem h)⟩
  · have h1 := List.pairwise_iff_getElem.1 (span_rises rows hk.rises a b ts) i (i + 1) (by omega) h (by omega)
    rw [bytesLess_cmp]
    exact decide_eq_true h1
theorem ht_cells {w0 w : World} {S0 : Nat → Prop} {F : List HP} {g n c : Nat} {xs : List Ht} (h : St w0 S0 w (HP.row kHt 39 (.slice (some ⟨g, 0, none⟩) n c) xs :: F)) (j : Nat) (hj : j < xs.length) :
    w.cell? ⟨g, j * 3, none⟩ = some (.string xs[j].key) ∧ w.cell? ⟨g, j * 3 + 1, none⟩ = some (.int .i64 xs[j].ts) ∧ w.cell? ⟨g, j * 3 + 2, none⟩ = some (.string xs[j].val) := by
  have hf := fun i hi => flat_cell (enc := fun x : Ht => [.string x.key, .int .i64 x.ts, .string x.val]) kHt_open h j hj i hi
  exact ⟨hf 0 (by simp), hf 1 (by simp), hf 2 (by simp)⟩
set_option maxHeartbeats 4000000 in
set_option maxRecDepth 20000 in
theorem versionParts_fun (A1 : Option Addr) (c1 : Nat) (script : List OpV) (hB1 : ∀ x ∈ script, x.key.size ≤ 140737488351232) (hc1 : script.length ≤ c1) (a b c : ByteArray) (ha : a.size ≤ 140737488351232) (hb : b.size ≤ 140737488351232) (hc : c.size ≤ 140737488351232) (ts : Int) :
    FunV Try.prog 4 #[.slice A1 script.length c1, .string a, .string b, .string c, .int .i64 ts] (fun w => Kd.C kOp w A1 script.length script) [] (.bool true) [] := by
  intro w S hS hR
  have HS := St.start hS
  have HR := Aside0.mk hR
  have HB1 := Aside0.mk hB1
  have HSZ := Aside0.mk (And.intro ha (And.intro hb hc))
  clear hS hR hB1 ha hb hc
  have hu31 := Try.underlying31
  have hu29 := Try.underlying29
  have hu24 := Try.underlying24
  have hu22 := Try.underlying22
  have hu39 := Try.underlying39
  have hu34 := Try.underlying34
  go_enter Try.func4, Try.ntmps4
  go_wp2_with fail
  refine (awake_fun.call (F := []) HS (fun _ _ _ _ => trivial)).mono ?_
  rintro e_ w2 ⟨rfl, HS_⟩
  clear HS
  have HS : St w S w2 [] := HS_
  clear HS_
  rcases Nat.lt_or_ge 120 script.length with hl1 | hl1
  · have hd1 : decide ((script.length : Int) > 120) = true := decide_eq_true (by omega)
    go_wp2_with fail
    refine (awake_fun.call (F := []) HS (fun _ _ _ _ => trivial)).mono ?_
    rintro e_ w3 ⟨rfl, HS_⟩
    clear HS
    have HS : St w S w3 [] := HS_
    clear HS_
    go_wp2
    go_ret
    exact ⟨rfl, HS⟩
  have hd1 : decide ((script.length : Int) > 120) = false := decide_eq_false (by omega)
  go_upto_if 29 with (fail)
  go_cut [1, 2] (fun x1 x2 wc => ∃ a b : ByteArray, x1 = .string a ∧ x2 = .string b ∧ Aside0 (a.size ≤ 140737488351232 ∧ b.size ≤ 140737488351232 ∧ c.size ≤ 140737488351232) ∧ Aside0 (cmpS a b ≤ 0) ∧ St w S wc [])
  case first =>
    clear hd1
    go_wp2
    · rename_i hq
      go_meet
      exact ⟨b, a, rfl, rfl, ⟨⟨HSZ.out.2.1, HSZ.out.1, HSZ.out.2.2⟩⟩, ⟨by have := gt_yes hq; rw [cmpS_swap]; omega⟩, HS⟩
    · rename_i hq
      go_meet
      exact ⟨a, b, rfl, rfl, HSZ, ⟨(gt_no hq)⟩, HS⟩
  case rest =>
  clear HS HSZ
  obtain ⟨a, b, rfl, rfl, HSZ, HAB, HS⟩ := hcut
  go_upto_if 34 with (fail)
  go_cut [2, 3] (fun x2 x3 wc => ∃ b c : ByteArray, x2 = .string b ∧ x3 = .string c ∧ Aside0 (a.size ≤ 140737488351232 ∧ b.size ≤ 140737488351232 ∧ c.size ≤ 140737488351232) ∧ Aside0 (cmpS a c ≤ 0 ∧ cmpS b c ≤ 0) ∧ St w S wc [])
  case first =>
    go_wp2
    · rename_i hq
      go_meet
      exact ⟨c, b, rfl, rfl, ⟨⟨HSZ.out.1, HSZ.out.2.2, HSZ.out.2.1⟩⟩, ⟨⟨HAB.out, by have := gt_yes hq; rw [cmpS_swap]; omega⟩⟩, HS⟩
    · rename_i hq
      go_meet
      exact ⟨b, c, rfl, rfl, HSZ, ⟨⟨(cmpS_trans a b c HAB.out (gt_no hq)).1, (gt_no hq)⟩⟩, HS⟩
  case rest =>
  clear HS HSZ HAB
  obtain ⟨b, c, rfl, rfl, HSZ, HAB, HS⟩ := hcut
  go_upto_if 39 with (fail)
  go_cut [1, 2] (fun x1 x2 wc => ∃ a b : ByteArray, x1 = .string a ∧ x2 = .string b ∧ Aside0 (a.size ≤ 140737488351232 ∧ b.size ≤ 140737488351232 ∧ c.size ≤ 140737488351232) ∧ Aside0 (cmpS a b ≤ 0 ∧ cmpS b c ≤ 0) ∧ St w S wc [])
  case first =>
    go_wp2
    · rename_i hq
      go_meet
      exact ⟨b, a, rfl, rfl, ⟨⟨HSZ.out.2.1, HSZ.out.1, HSZ.out.2.2⟩⟩, ⟨⟨by have := gt_yes hq; rw [cmpS_swap]; omega, HAB.out.1⟩⟩, HS⟩
    · rename_i hq
      go_meet
      exact ⟨a, b, rfl, rfl, HSZ, ⟨⟨(gt_no hq), HAB.out.2⟩⟩, HS⟩
  case rest =>
  clear HS HSZ HAB
  obtain ⟨a, b, rfl, rfl, HSZ, HAB, HS⟩ := hcut
  go_wp2_with fail
  refine (newS_fun.call (F := []) HS (fun _ _ _ _ => trivial)).mono ?_
  rintro e_ w3 ⟨r_, rfl, HS_⟩
  clear HS
  obtain ⟨gs, HS_⟩ := St.ex_ HS_
  obtain ⟨hr_, HS2_⟩ := St.and_ HS_
  subst hr_
  have HS : St w S w3 [someH gs []] := HS2_
  clear HS_ HS2_
  go_wp2_with fail
  go_loopw [45] (fun v45 w' => ∃ j : Nat, j ≤ script.length ∧ v45 = .int .i64 j ∧ Aside0 (Kept (puts [] (script.take j)) j) ∧ St w S w' [someH gs (puts [] (script.take j))]) (fun v45 _ => script.length - (intOf v45).toNat)
  case atStart => exact ⟨0, Nat.zero_le _, rfl, ⟨kept_nil⟩, HS⟩
  case round =>
    clear HS
    obtain ⟨j, hj, rfl, HK, HS⟩ := hrel
    by_cases hlt : j < script.length
    · have hltI : (j : Int) < (script.length : Int) := by omega
      have hj0 : (0 : Int) ≤ (j : Int) := by omega
      have hjd : decide ((j : Int) < (script.length : Int)) = true := decide_eq_true hltI
      obtain ⟨ad, rfl, i0, i1, i2, i3, i4, i5, i6, i7⟩ := at_Op (HR.out wr HS.ext) j hlt
      have hbx := HB1.out script[j] (List.getElem_mem hlt)
      have hnx := puts_take [] script j hlt
      obtain ⟨x, hx⟩ : ∃ x, script[j] = x := ⟨_, rfl⟩
      rw [hx] at i0 i1 i2 i3 i4 i5 i6 i7 hbx hnx
      have HNX := Aside0.mk hnx
      clear hnx hx
      generalize puts [] (script.take j) = rows at HK HS HNX
      go_wp2_with (first
        | ((with_reducible refine gate_dst (N := 13) rfl ?_); refine ev_box ?hg (N := 13) ?hd (cs := [.int .i64 0, .string ⟨#[]⟩, .int .i64 0, .string ⟨#[]⟩, .bool false, .string ⟨#[]⟩, .string ⟨#[]⟩, .int .i64 0]) (t := 31) HS ?hr ?_; (case hd => rfl); (case hg => rfl); (case hr => first | (go_simp; done) | (go_simp; rfl)); intro ob w4 HS_ hg_ob; clear HS; have HS := HS_; clear HS_; clear i0 i1 i2 i3 i4 i5 i6 i7)
        | ((with_reducible refine gate_ (.store 31 (.tmp 13) (.tmp 48)) rfl ?_); refine ev_store rfl rfl 31 (.tmp 13) (.tmp 48) rfl HS rfl rfl (seg := [.int .i64 x.kind, .string x.key, .int .i64 x.ts, .string x.val, .bool x.dead, .string x.fr, .string x.upto, .int .i64 x.at_]) rfl ?ht rfl ?hf ?_; (case ht => kernel_rfl); (case hf => first | (simp; done) | (simp [splice]; done)); intro w5 HS_; clear HS; have HS : St w S w5 [HP.obj ob 31 (opC x), someH gs rows] := HS_; clear HS_; have q1 : w5.cell? ⟨ob, 1, none⟩ = some (.string x.key) := HS.cell 1; have q2 : w5.cell? ⟨ob, 2, none⟩ = some (.int .i64 x.ts) := HS.cell 2; have q3 : w5.cell? ⟨ob, 3, none⟩ = some (.string x.val) := HS.cell 3; have q4 : w5.cell? ⟨ob, 4, none⟩ = some (.bool x.dead) := HS.cell 4))
      refine ((putS_fun gs rows j HK.out (by omega) x.key (opVn x)).call (F := [HP.obj ob 31 (opC x)]) (HS.mv 1) (fun _ _ _ _ => trivial)).mono ?_
      rintro e_ w6 ⟨rfl, HS_⟩
      clear HS q1 q2 q3 q4
      have HS := HS_.out 1
      clear HS_
      go_wp2
      go_roundw
      case rel => exact ⟨j + 1, by omega, by go_num, ⟨by rw [HNX.out]; exact kept_put HK.out _ hbx _⟩, by rw [HNX.out]; exact HS⟩
      case measure => simp [intOf]; omega
    · obtain rfl : j = script.length := by omega
      have hjd : decide ((script.length : Int) < (script.length : Int)) = false := decide_eq_false (by omega)
      rw [List.take_length] at HS HK
      generalize puts [] script = rows1 at HS HK
      go_wp2_with fail
      refine ((spanS_fun gs rows1 script.length HK.out (by omega) a b ts).call (F := []) HS (fun _ _ _ _ => trivial)).mono ?_
      rintro e_ w4 ⟨r1, rfl, HS_⟩
      clear HS hjd
      have HS : St w S w4 [HP.row kHt 39 r1 (span rows1 a b ts), someH gs rows1] := HS_
      clear HS_
      go_wp2_with fail
      refine ((spanS_fun gs rows1 script.length HK.out (by omega) b c ts).call (F := [HP.row kHt 39 r1 (span rows1 a b ts)]) (HS.mv 1) (fun _ _ _ _ => trivial)).mono ?_
      rintro e_ w5 ⟨r2, rfl, HS_⟩
      clear HS
      have HS : St w S w5 [HP.row kHt 39 r2 (span rows1 b c ts), someH gs rows1, HP.row kHt 39 r1 (span rows1 a b ts)] := HS_
      clear HS_
      go_wp2_with fail
      refine ((spanS_fun gs rows1 script.length HK.out (by omega) a c ts).call (F := [HP.row kHt 39 r2 (span rows1 b c ts), HP.row kHt 39 r1 (span rows1 a b ts)]) (HS.mv 1) (fun _ _ _ _ => trivial)).mono ?_
      rintro e_ w6 ⟨r3, rfl, HS_⟩
      clear HS
      have HR3 := Aside0.mk (span_right rows1 script.length HK.out a c ts)
      have HM := Aside0.mk (span_meet rows1 HK.out.rises a b c ts HAB.out.1 HAB.out.2)
      have hln := span_len rows1 a c ts
      have hln2 := HK.out.len
      have HS : St w S w6 [HP.row kHt 39 r3 (span rows1 a c ts), HP.row kHt 39 r2 (span rows1 b c ts), HP.row kHt 39 r1 (span rows1 a b ts)] := HS_.out 1
      clear HS_ HK HAB
      generalize span rows1 a c ts = xs at HS HR3 HM hln
      generalize span rows1 b c ts = ys at HS HM
      generalize span rows1 a b ts = zs at HS HM
      have hx120 : xs.length ≤ 120 := by omega
      clear hln hln2 hl1 rows1
      obtain ⟨A3, c3, rfl, hc3, hC3⟩ := St.row_C HS
      clear hC3
      go_wp2_with fail
      go_loopw [76] (fun v76 w' => ∃ j : Nat, j ≤ xs.length ∧ v76 = .int .i64 j ∧ St w S w' [HP.row kHt 39 (.slice A3 xs.length c3) xs, HP.row kHt 39 r2 ys, HP.row kHt 39 r1 zs]) (fun v76 _ => xs.length - (intOf v76).toNat)
      case atStart => exact ⟨0, Nat.zero_le _, rfl, HS⟩
      case round =>
        clear HS
        obtain ⟨j, hj, rfl, HS⟩ := hrel
        by_cases hlt : j < xs.length
        · have hltI : (j : Int) < (xs.length : Int) := by omega
          have hj0 : (0 : Int) ≤ (j : Int) := by omega
          have hjd : decide ((j : Int) < (xs.length : Int)) = true := decide_eq_true hltI
          obtain ⟨g3, c3', ev⟩ := St.row_form HS (by omega)
          obtain ⟨rfl, -, rfl⟩ : A3 = some ⟨g3, 0, none⟩ ∧ xs.length = xs.length ∧ c3 = c3' := by simpa using ev
          clear ev
          obtain ⟨x, hx⟩ : ∃ x, xs[j] = x := ⟨_, rfl⟩
          obtain ⟨i0, i1, i2⟩ := ht_cells HS j hlt
          rw [hx] at i0 i1 i2
          have HIN := Aside0.mk (HR3.out.at_ j hlt)
          rw [hx] at HIN
          have hwt : decide (x.ts > ts) = false := decide_eq_false (by have := HIN.out.1; omega)
          have hw1 : decide (x.ts < 1) = false := decide_eq_false (by have := HIN.out.2.1; omega)
          have hwi : inside x.key a c = true := HIN.out.2.2.1
          have hsx : x.key.size ≤ 140737488351232 := HIN.out.2.2.2
          have HX := Aside0.mk hx
          clear hx HIN
          go_wp2_with (first
            | ((with_reducible refine gate_dst (N := 18) rfl ?_); refine ev_box ?hg (N := 18) ?hd (cs := [.string ⟨#[]⟩, .int .i64 0, .string ⟨#[]⟩]) (t := 39) HS ?hr ?_; (case hd => rfl); (case hg => rfl); (case hr => first | (go_simp; done) | (go_simp; rfl)); intro hb w7 HS_ hg_hb; clear HS; have HS := HS_; clear HS_; clear i0 i1 i2)
            | ((with_reducible refine gate_ (.store 39 (.tmp 18) (.tmp 80)) rfl ?_); refine ev_store rfl rfl 39 (.tmp 18) (.tmp 80) rfl HS rfl rfl (seg := [.string x.key, .int .i64 x.ts, .string x.val]) rfl ?ht rfl ?hf ?_; (case ht => kernel_rfl); (case hf => first | (simp; done) | (simp [splice]; done)); intro w8 HS_; clear HS; have HS : St w S w8 [HP.obj hb 39 [.string x.key, .int .i64 x.ts, .string x.val], HP.row kHt 39 (.slice (some ⟨g3, 0, none⟩) xs.length c3) xs, HP.row kHt 39 r2 ys, HP.row kHt 39 r1 zs] := HS_; clear HS_))
          rcases Nat.eq_zero_or_pos j with hz | hz
          · subst hz
            have hdz : decide ((0 : Int) > 0) = false := rfl
            refine start_ (n := 33) (S := fun w' => w'.cell? ⟨hb, 0, none⟩ = some (.string x.key) ∧ w'.cell? ⟨hb, 1, none⟩ = some (.int .i64 x.ts)) (ds := []) #[false, false, false, false, false, false, false, false, false, false, false, false, false, false, false, false, false, false, false, false, false, false, false, false, false, false, false, false, false, false, false, false, false] (by kernel_rfl) rfl rfl ⟨HS.drew.cell 0, HS.drew.cell 1⟩ (fun hHeld => ?_)
            refine pure_ (i := 0) (N := some 81) (v := ?_) (a' := ?_) #[true, false, false, false, false, false, false, false, false, false, false, false, false, false, false, false, false, false, false, false, false, false, false, false, false, false, false, false, false, false, false, false, false] rfl rfl (by kernel_rfl) (fun _ _ _ h => h) (Or.inl ⟨by rfl, ?_⟩) ?_ ?_
            rotate_left
            · intro w'
              go_simp
              with_reducible rfl
            rotate_left
            · simp only [Act.put, List.setIfInBounds_toArray, List.set_cons_zero, List.set_cons_succ, i64_w, i32_w]
              rfl
            refine pure_ (i := 2) (N := some 83) (v := ?_) (a' := ?_) #[true, false, true, false, false, false, false, false, false, false, false, false, false, false, false, false, false, false, false, false, false, false, false, false, false, false, false, false, false, false, false, false, false] rfl rfl (by kernel_rfl) (fun _ _ _ h => h) (Or.inl ⟨by rfl, ?_⟩) ?_ ?_
            rotate_left
            · intro w'
              go_simp
              with_reducible rfl
            rotate_left
            · simp only [Act.put, List.setIfInBounds_toArray, List.set_cons_zero, List.set_cons_succ, i64_w, i32_w]
              rfl
            refine take_ (i := 1) (N := some 82) (v := ?_) (a' := ?_) #[true, true, true, false, false, false, false, false, false, false, false, false, false, false, false, false, false, false, false, false, false, false, false, false, false, false, false, false, false, false, false, false, false] rfl rfl (by kernel_rfl) (fun _ _ _ h => h) (Or.inl ⟨by rfl, ?_⟩) hHeld ?_ ?_
            rotate_left
            · rintro w' ⟨s0, s1⟩
              go_simp
              with_reducible rfl
            rotate_left
            · simp only [Act.put, List.setIfInBounds_toArray, List.set_cons_zero, List.set_cons_succ, i64_w, i32_w]
              rfl
            refine pure_ (i := 3) (N := some 84) (v := ?_) (a' := ?_) #[true, true, true, true, false, false, false, false, false, false, false, false, false, false, false, false, false, false, false, false, false, false, false, false, false, false, false, false, false, false, false, false, false] rfl rfl (by kernel_rfl) (fun _ _ _ h => h) (Or.inl ⟨by rfl, ?_⟩) ?_ ?_
            rotate_left
            · intro w'
              go_simp
              with_reducible rfl
            rotate_left
            · simp only [Act.put, List.setIfInBounds_toArray, List.set_cons_zero, List.set_cons_succ, i64_w, i32_w]
              rfl
            refine pure_ (i := 4) (N := some 85) (v := ?_) (a' := ?_) #[true, true, true, true, true, false, false, false, false, false, false, false, false, false, false, false, false, false, false, false, false, false, false, false, false, false, false, false, false, false, false, false, false] rfl rfl (by kernel_rfl) (fun _ _ _ h => h) (Or.inl ⟨by rfl, ?_⟩) ?_ ?_
            rotate_left
            · intro w'
              go_simp
              with_reducible rfl
            rotate_left
            · simp only [Act.put, List.setIfInBounds_toArray, List.set_cons_zero, List.set_cons_succ, i64_w, i32_w]
              rfl
            refine pure_ (i := 5) (N := some 86) (v := ?_) (a' := ?_) #[true, true, true, true, true, true, false, false, false, false, false, false, false, false, false, false, false, false, false, false, false, false, false, false, false, false, false, false, false, false, false, false, false] rfl rfl (by kernel_rfl) (fun _ _ _ h => h) (Or.inl ⟨by rfl, ?_⟩) ?_ ?_
            rotate_left
            · intro w'
              go_simp
              with_reducible rfl
            rotate_left
            · simp only [Act.put, List.setIfInBounds_toArray, List.set_cons_zero, List.set_cons_succ, i64_w, i32_w]
              rfl
            refine take_ (i := 6) (N := some 87) (v := ?_) (a' := ?_) #[true, true, true, true, true, true, true, false, false, false, false, false, false, false, false, false, false, false, false, false, false, false, false, false, false, false, false, false, false, false, false, false, false] rfl rfl (by kernel_rfl) (fun _ _ _ h => h) (Or.inl ⟨by rfl, ?_⟩) hHeld ?_ ?_
            rotate_left
            · rintro w' ⟨s0, s1⟩
              go_simp
              with_reducible rfl
            rotate_left
            · simp only [Act.put, List.setIfInBounds_toArray, List.set_cons_zero, List.set_cons_succ, i64_w, i32_w]
              rfl
            refine pure_ (i := 7) (N := some 88) (v := ?_) (a' := ?_) #[true, true, true, true, true, true, true, true, false, false, false, false, false, false, false, false, false, false, false, false, false, false, false, false, false, false, false, false, false, false, false, false, false] rfl rfl (by kernel_rfl) (fun _ _ _ h => h) (Or.inl ⟨by rfl, ?_⟩) ?_ ?_
            rotate_left
            · intro w'
              go_simp
              with_reducible rfl
            rotate_left
            · simp only [Act.put, List.setIfInBounds_toArray, List.set_cons_zero, List.set_cons_succ, i64_w, i32_w]
              rfl
            refine pure_ (i := 8) (N := some 89) (v := ?_) (a' := ?_) #[true, true, true, true, true, true, true, true, true, false, false, false, false, false, false, false, false, false, false, false, false, false, false, false, false, false, false, false, false, false, false, false, false] rfl rfl (by kernel_rfl) (fun _ _ _ h => h) (Or.inl ⟨by rfl, ?_⟩) ?_ ?_
            rotate_left
            · intro w'
              go_simp
              with_reducible rfl
            rotate_left
            · simp only [Act.put, List.setIfInBounds_toArray, List.set_cons_zero, List.set_cons_succ, i64_w, i32_w]
              rfl
            refine pure_ (i := 9) (N := some 90) (v := ?_) (a' := ?_) #[true, true, true, true, true, true, true, true, true, true, false, false, false, false, false, false, false, false, false, false, false, false, false, false, false, false, false, false, false, false, false, false, false] rfl rfl (by kernel_rfl) (fun _ _ _ h => h) (Or.inl ⟨by rfl, ?_⟩) ?_ ?_
            rotate_left
            · intro w'
              go_simp
              with_reducible rfl
            rotate_left
            · simp only [Act.put, List.setIfInBounds_toArray, List.set_cons_zero, List.set_cons_succ, i64_w, i32_w]
              rfl
            refine pure_ (i := 10) (N := some 91) (v := ?_) (a' := ?_) #[true, true, true, true, true, true, true, true, true, true, true, false, false, false, false, false, false, false, false, false, false, false, false, false, false, false, false, false, false, false, false, false, false] rfl rfl (by kernel_rfl) (fun _ _ _ h => h) (Or.inl ⟨by rfl, ?_⟩) ?_ ?_
            rotate_left
            · intro w'
              go_simp
              with_reducible rfl
            rotate_left
            · simp only [Act.put, List.setIfInBounds_toArray, List.set_cons_zero, List.set_cons_succ, i64_w, i32_w]
              rfl
            refine pure_ (i := 12) (N := some 93) (v := ?_) (a' := ?_) #[true, true, true, true, true, true, true, true, true, true, true, false, true, false, false, false, false, false, false, false, false, false, false, false, false, false, false, false, false, false, false, false, false] rfl rfl (by kernel_rfl) (fun _ _ _ h => h) (Or.inl ⟨by rfl, ?_⟩) ?_ ?_
            rotate_left
            · intro w'
              go_simp
              with_reducible rfl
            rotate_left
            · simp only [Act.put, List.setIfInBounds_toArray, List.set_cons_zero, List.set_cons_succ, i64_w, i32_w]
              rfl
            refine pure_ (i := 13) (N := some 94) (v := ?_) (a' := ?_) #[true, true, true, true, true, true, true, true, true, true, true, false, true, true, false, false, false, false, false, false, false, false, false, false, false, false, false, false, false, false, false, false, false] rfl rfl (by kernel_rfl) (fun _ _ _ h => h) (Or.inl ⟨by rfl, ?_⟩) ?_ ?_
            rotate_left
            · intro w'
              go_simp
              with_reducible rfl
            rotate_left
            · simp only [Act.put, List.setIfInBounds_toArray, List.set_cons_zero, List.set_cons_succ, i64_w, i32_w]
              rfl
            refine pure_ (i := 14) (N := some 95) (v := ?_) (a' := ?_) #[true, true, true, true, true, true, true, true, true, true, true, false, true, true, true, false, false, false, false, false, false, false, false, false, false, false, false, false, false, false, false, false, false] rfl rfl (by kernel_rfl) (fun _ _ _ h => h) (Or.inl ⟨by rfl, ?_⟩) ?_ ?_
            rotate_left
            · intro w'
              go_simp
              with_reducible rfl
            rotate_left
            · simp only [Act.put, List.setIfInBounds_toArray, List.set_cons_zero, List.set_cons_succ, i64_w, i32_w]
              rfl
            refine take_ (i := 11) (N := some 92) (v := ?_) (a' := ?_) #[true, true, true, true, true, true, true, true, true, true, true, true, true, true, true, false, false, false, false, false, false, false, false, false, false, false, false, false, false, false, false, false, false] rfl rfl (by kernel_rfl) (fun _ _ _ h => h) (Or.inl ⟨by rfl, ?_⟩) hHeld ?_ ?_
            rotate_left
            · rintro w' ⟨s0, s1⟩
              go_simp
              with_reducible rfl
            rotate_left
            · simp only [Act.put, List.setIfInBounds_toArray, List.set_cons_zero, List.set_cons_succ, i64_w, i32_w]
              rfl
            refine one_ (i := 15) (N := some 96) #[true, true, true, true, true, true, true, true, true, true, true, true, true, true, true, true, false, false, false, false, false, false, false, false, false, false, false, false, false, false, false, false, false] rfl rfl (by kernel_rfl) (by decide) (fun K hK => ?_)
            refine goes_ Try.func13 (by kernel_rfl) rfl #[.string x.key, .agg #[.string a, .string c]] (by rfl) rfl rfl (by simp only [List.map_toArray, List.map_cons, List.map_nil]; rfl) ?_
            refine (within_calls x.key a c (by omega) (by have := HSZ.out.1; omega) _).mono ?_
            rintro e_ w9 ⟨rfl, hbl⟩
            refine ⟨_, rfl, ?_⟩
            have HS_ := HS.drew.later hbl
            clear HS
            have HS := HS_
            clear HS_ hbl
            rw [hwi]
            refine hK.out _ _ ⟨HS.cell 0, HS.cell 1⟩ (fun hHeld => ?_)
            clear hK K
            refine norm_ (a' := ?_) ?_ ?_
            rotate_left
            · show Act.put _ (some 96) _ = _
              simp only [Act.put, List.setIfInBounds_toArray, List.set_cons_zero, List.set_cons_succ, i64_w, i32_w]
              rfl
            refine pure_ (i := 16) (N := some 97) (v := ?_) (a' := ?_) #[true, true, true, true, true, true, true, true, true, true, true, true, true, true, true, true, true, false, false, false, false, false, false, false, false, false, false, false, false, false, false, false, false] rfl rfl (by kernel_rfl) (fun _ _ _ h => h) (Or.inl ⟨by rfl, ?_⟩) ?_ ?_
            rotate_left
            · intro w'
              go_simp
              with_reducible rfl
            rotate_left
            · simp only [Act.put, List.setIfInBounds_toArray, List.set_cons_zero, List.set_cons_succ, i64_w, i32_w]
              rfl
            refine pure_ (i := 17) (N := some 98) (v := ?_) (a' := ?_) #[true, true, true, true, true, true, true, true, true, true, true, true, true, true, true, true, true, true, false, false, false, false, false, false, false, false, false, false, false, false, false, false, false] rfl rfl (by kernel_rfl) (fun _ _ _ h => h) (Or.inl ⟨by rfl, ?_⟩) ?_ ?_
            rotate_left
            · intro w'
              go_simp
              with_reducible rfl
            rotate_left
            · simp only [Act.put, List.setIfInBounds_toArray, List.set_cons_zero, List.set_cons_succ, i64_w, i32_w]
              rfl
            refine pure_ (i := 18) (N := some 99) (v := ?_) (a' := ?_) #[true, true, true, true, true, true, true, true, true, true, true, true, true, true, true, true, true, true, true, false, false, false, false, false, false, false, false, false, false, false, false, false, false] rfl rfl (by kernel_rfl) (fun _ _ _ h => h) (Or.inl ⟨by rfl, ?_⟩) ?_ ?_
            rotate_left
            · intro w'
              go_simp
              with_reducible rfl
            rotate_left
            · simp only [Act.put, List.setIfInBounds_toArray, List.set_cons_zero, List.set_cons_succ, i64_w, i32_w]
              rfl
            refine pure_ (i := 19) (N := some 100) (v := ?_) (a' := ?_) #[true, true, true, true, true, true, true, true, true, true, true, true, true, true, true, true, true, true, true, true, false, false, false, false, false, false, false, false, false, false, false, false, false] rfl rfl (by kernel_rfl) (fun _ _ _ h => h) (Or.inl ⟨by rfl, ?_⟩) ?_ ?_
            rotate_left
            · intro w'
              go_simp
              with_reducible rfl
            rotate_left
            · simp only [Act.put, List.setIfInBounds_toArray, List.set_cons_zero, List.set_cons_succ, i64_w, i32_w]
              rfl
            refine pure_ (i := 20) (N := some 101) (v := ?_) (a' := ?_) #[true, true, true, true, true, true, true, true, true, true, true, true, true, true, true, true, true, true, true, true, true, false, false, false, false, false, false, false, false, false, false, false, false] rfl rfl (by kernel_rfl) (fun _ _ _ h => h) (Or.inl ⟨by rfl, ?_⟩) ?_ ?_
            rotate_left
            · intro w'
              go_simp
              with_reducible rfl
            rotate_left
            · simp only [Act.put, List.setIfInBounds_toArray, List.set_cons_zero, List.set_cons_succ, i64_w, i32_w]
              rfl
            refine pure_ (i := 21) (N := some 102) (v := ?_) (a' := ?_) #[true, true, true, true, true, true, true, true, true, true, true, true, true, true, true, true, true, true, true, true, true, true, false, false, false, false, false, false, false, false, false, false, false] rfl rfl (by kernel_rfl) (fun _ _ _ h => h) (Or.inl ⟨by rfl, ?_⟩) ?_ ?_
            rotate_left
            · intro w'
              go_simp
              with_reducible rfl
            rotate_left
            · simp only [Act.put, List.setIfInBounds_toArray, List.set_cons_zero, List.set_cons_succ, i64_w, i32_w]
              rfl
            refine pure_ (i := 22) (N := some 103) (v := undef) (a' := ?_) #[true, true, true, true, true, true, true, true, true, true, true, true, true, true, true, true, true, true, true, true, true, true, true, false, false, false, false, false, false, false, false, false, false] rfl rfl (by kernel_rfl) (fun _ _ _ h => h) (Or.inr ⟨by rfl, rfl⟩) ?_ ?_
            rotate_left
            · simp only [Act.put, List.setIfInBounds_toArray, List.set_cons_zero, List.set_cons_succ, i64_w, i32_w]
              rfl
            refine pure_ (i := 23) (N := some 104) (v := undef) (a' := ?_) #[true, true, true, true, true, true, true, true, true, true, true, true, true, true, true, true, true, true, true, true, true, true, true, true, false, false, false, false, false, false, false, false, false] rfl rfl (by kernel_rfl) (fun _ _ _ h => h) (Or.inr ⟨by rfl, rfl⟩) ?_ ?_
            rotate_left
            · simp only [Act.put, List.setIfInBounds_toArray, List.set_cons_zero, List.set_cons_succ, i64_w, i32_w]
              rfl
            refine pure_ (i := 24) (N := some 105) (v := undef) (a' := ?_) #[true, true, true, true, true, true, true, true, true, true, true, true, true, true, true, true, true, true, true, true, true, true, true, true, true, false, false, false, false, false, false, false, false] rfl rfl (by kernel_rfl) (fun _ _ _ h => h) (Or.inr ⟨by rfl, rfl⟩) ?_ ?_
            rotate_left
            · simp only [Act.put, List.setIfInBounds_toArray, List.set_cons_zero, List.set_cons_succ, i64_w, i32_w]
              rfl
            refine pure_ (i := 25) (N := some 106) (v := undef) (a' := ?_) #[true, true, true, true, true, true, true, true, true, true, true, true, true, true, true, true, true, true, true, true, true, true, true, true, true, true, false, false, false, false, false, false, false] rfl rfl (by kernel_rfl) (fun _ _ _ h => h) (Or.inr ⟨by rfl, rfl⟩) ?_ ?_
            rotate_left
            · simp only [Act.put, List.setIfInBounds_toArray, List.set_cons_zero, List.set_cons_succ, i64_w, i32_w]
              rfl
            refine pure_ (i := 26) (N := some 107) (v := undef) (a' := ?_) #[true, true, true, true, true, true, true, true, true, true, true, true, true, true, true, true, true, true, true, true, true, true, true, true, true, true, true, false, false, false, false, false, false] rfl rfl (by kernel_rfl) (fun _ _ _ h => h) (Or.inr ⟨by rfl, rfl⟩) ?_ ?_
            rotate_left
            · simp only [Act.put, List.setIfInBounds_toArray, List.set_cons_zero, List.set_cons_succ, i64_w, i32_w]
              rfl
            refine pure_ (i := 27) (N := some 108) (v := undef) (a' := ?_) #[true, true, true, true, true, true, true, true, true, true, true, true, true, true, true, true, true, true, true, true, true, true, true, true, true, true, true, true, false, false, false, false, false] rfl rfl (by kernel_rfl) (fun _ _ _ h => h) (Or.inr ⟨by rfl, rfl⟩) ?_ ?_
            rotate_left
            · simp only [Act.put, List.setIfInBounds_toArray, List.set_cons_zero, List.set_cons_succ, i64_w, i32_w]
              rfl
            refine pure_ (i := 28) (N := some 109) (v := undef) (a' := ?_) #[true, true, true, true, true, true, true, true, true, true, true, true, true, true, true, true, true, true, true, true, true, true, true, true, true, true, true, true, true, false, false, false, false] rfl rfl (by kernel_rfl) (fun _ _ _ h => h) (Or.inr ⟨by rfl, rfl⟩) ?_ ?_
            rotate_left
            · simp only [Act.put, List.setIfInBounds_toArray, List.set_cons_zero, List.set_cons_succ, i64_w, i32_w]
              rfl
            refine pure_ (i := 29) (N := some 110) (v := undef) (a' := ?_) #[true, true, true, true, true, true, true, true, true, true, true, true, true, true, true, true, true, true, true, true, true, true, true, true, true, true, true, true, true, true, false, false, false] rfl rfl (by kernel_rfl) (fun _ _ _ h => h) (Or.inr ⟨by rfl, rfl⟩) ?_ ?_
            rotate_left
            · simp only [Act.put, List.setIfInBounds_toArray, List.set_cons_zero, List.set_cons_succ, i64_w, i32_w]
              rfl
            refine pure_ (i := 30) (N := some 111) (v := undef) (a' := ?_) #[true, true, true, true, true, true, true, true, true, true, true, true, true, true, true, true, true, true, true, true, true, true, true, true, true, true, true, true, true, true, true, false, false] rfl rfl (by kernel_rfl) (fun _ _ _ h => h) (Or.inr ⟨by rfl, rfl⟩) ?_ ?_
            rotate_left
            · simp only [Act.put, List.setIfInBounds_toArray, List.set_cons_zero, List.set_cons_succ, i64_w, i32_w]
              rfl
            refine pure_ (i := 31) (N := some 112) (v := ?_) (a' := ?_) #[true, true, true, true, true, true, true, true, true, true, true, true, true, true, true, true, true, true, true, true, true, true, true, true, true, true, true, true, true, true, true, true, false] rfl rfl (by kernel_rfl) (fun _ _ _ h => h) (Or.inl ⟨by rfl, ?_⟩) ?_ ?_
            rotate_left
            · intro w'
              go_simp
              with_reducible rfl
            rotate_left
            · simp only [Act.put, List.setIfInBounds_toArray, List.set_cons_zero, List.set_cons_succ, i64_w, i32_w]
              rfl
            refine pure_ (i := 32) (N := some 113) (v := ?_) (a' := ?_) #[true, true, true, true, true, true, true, true, true, true, true, true, true, true, true, true, true, true, true, true, true, true, true, true, true, true, true, true, true, true, true, true, true] rfl rfl (by kernel_rfl) (fun _ _ _ h => h) (Or.inl ⟨by rfl, ?_⟩) ?_ ?_
            rotate_left
            · intro w'
              go_simp
              with_reducible rfl
            rotate_left
            · simp only [Act.put, List.setIfInBounds_toArray, List.set_cons_zero, List.set_cons_succ, i64_w, i32_w]
              rfl
            refine done_ (by kernel_rfl) ?_
            clear hHeld
            go_wp2
            go_roundw
            case rel => exact ⟨0 + 1, by omega, by go_num, HS.out 0⟩
            case measure => (simp [intOf]) <;> omega
          · obtain ⟨m, hm⟩ : ∃ m, j = m + 1 := ⟨j - 1, by omega⟩
            have hdz : decide ((j : Int) > 0) = true := decide_eq_true (by omega)
            have hw2 : IntKind.i64.wrap ((j : Int) - 1) = (m : Int) := by rw [IntWalk.i64_in _ (by omega)]; omega
            have hm0 : (0 : Int) ≤ (m : Int) := by omega
            have hmI : (m : Int) < (xs.length : Int) := by omega
            have hml : m < xs.length := by omega
            obtain ⟨y, hy⟩ : ∃ y, xs[m] = y := ⟨_, rfl⟩
            have hup : Op.bytesLess y.key.toList x.key.toList = true := by
              have := HR3.out.up m (by omega)
              rw [hy] at this
              have e : xs[m + 1]'(by omega) = x := by rw [← HX.out]; congr 1; omega
              rw [e] at this
              exact this
            have HM1 := Aside0.mk hm
            have HY := Aside0.mk hy
            clear hm hy
            refine start_ (n := 33) (S := fun w' => w'.cell? ⟨hb, 0, none⟩ = some (.string x.key) ∧ w'.cell? ⟨hb, 1, none⟩ = some (.int .i64 x.ts) ∧ w'.cell? ⟨g3, m * 3, none⟩ = some (.string y.key)) (ds := []) #[false, false, false, false, false, false, false, false, false, false, false, false, false, false, false, false, false, false, false, false, false, false, false, false, false, false, false, false, false, false, false, false, false] (by kernel_rfl) rfl rfl ⟨HS.drew.cell 0, HS.drew.cell 1, (by rw [← HY.out]; exact (ht_cells (HS.drew.mv 1) m hml).1)⟩ (fun hHeld => ?_)
            refine pure_ (i := 0) (N := some 81) (v := ?_) (a' := ?_) #[true, false, false, false, false, false, false, false, false, false, false, false, false, false, false, false, false, false, false, false, false, false, false, false, false, false, false, false, false, false, false, false, false] rfl rfl (by kernel_rfl) (fun _ _ _ h => h) (Or.inl ⟨by rfl, ?_⟩) ?_ ?_
            rotate_left
            · intro w'
              go_simp
              with_reducible rfl
            rotate_left
            · simp only [Act.put, List.setIfInBounds_toArray, List.set_cons_zero, List.set_cons_succ, i64_w, i32_w]
              rfl
            refine pure_ (i := 2) (N := some 83) (v := ?_) (a' := ?_) #[true, false, true, false, false, false, false, false, false, false, false, false, false, false, false, false, false, false, false, false, false, false, false, false, false, false, false, false, false, false, false, false, false] rfl rfl (by kernel_rfl) (fun _ _ _ h => h) (Or.inl ⟨by rfl, ?_⟩) ?_ ?_
            rotate_left
            · intro w'
              go_simp
              with_reducible rfl
            rotate_left
            · simp only [Act.put, List.setIfInBounds_toArray, List.set_cons_zero, List.set_cons_succ, i64_w, i32_w]
              rfl
            refine take_ (i := 1) (N := some 82) (v := ?_) (a' := ?_) #[true, true, true, false, false, false, false, false, false, false, false, false, false, false, false, false, false, false, false, false, false, false, false, false, false, false, false, false, false, false, false, false, false] rfl rfl (by kernel_rfl) (fun _ _ _ h => h) (Or.inl ⟨by rfl, ?_⟩) hHeld ?_ ?_
            rotate_left
            · rintro w' ⟨s0, s1, s2⟩
              go_simp
              with_reducible rfl
            rotate_left
            · simp only [Act.put, List.setIfInBounds_toArray, List.set_cons_zero, List.set_cons_succ, i64_w, i32_w]
              rfl
            refine pure_ (i := 3) (N := some 84) (v := ?_) (a' := ?_) #[true, true, true, true, false, false, false, false, false, false, false, false, false, false, false, false, false, false, false, false, false, false, false, false, false, false, false, false, false, false, false, false, false] rfl rfl (by kernel_rfl) (fun _ _ _ h => h) (Or.inl ⟨by rfl, ?_⟩) ?_ ?_
            rotate_left
            · intro w'
              go_simp
              with_reducible rfl
            rotate_left
            · simp only [Act.put, List.setIfInBounds_toArray, List.set_cons_zero, List.set_cons_succ, i64_w, i32_w]
              rfl
            refine pure_ (i := 4) (N := some 85) (v := ?_) (a' := ?_) #[true, true, true, true, true, false, false, false, false, false, false, false, false, false, false, false, false, false, false, false, false, false, false, false, false, false, false, false, false, false, false, false, false] rfl rfl (by kernel_rfl) (fun _ _ _ h => h) (Or.inl ⟨by rfl, ?_⟩) ?_ ?_
            rotate_left
            · intro w'
              go_simp
              with_reducible rfl
            rotate_left
            · simp only [Act.put, List.setIfInBounds_toArray, List.set_cons_zero, List.set_cons_succ, i64_w, i32_w]
              rfl
            refine pure_ (i := 5) (N := some 86) (v := ?_) (a' := ?_) #[true, true, true, true, true, true, false, false, false, false, false, false, false, false, false, false, false, false, false, false, false, false, false, false, false, false, false, false, false, false, false, false, false] rfl rfl (by kernel_rfl) (fun _ _ _ h => h) (Or.inl ⟨by rfl, ?_⟩) ?_ ?_
            rotate_left
            · intro w'
              go_simp
              with_reducible rfl
            rotate_left
            · simp only [Act.put, List.setIfInBounds_toArray, List.set_cons_zero, List.set_cons_succ, i64_w, i32_w]
              rfl
            refine take_ (i := 6) (N := some 87) (v := ?_) (a' := ?_) #[true, true, true, true, true, true, true, false, false, false, false, false, false, false, false, false, false, false, false, false, false, false, false, false, false, false, false, false, false, false, false, false, false] rfl rfl (by kernel_rfl) (fun _ _ _ h => h) (Or.inl ⟨by rfl, ?_⟩) hHeld ?_ ?_
            rotate_left
            · rintro w' ⟨s0, s1, s2⟩
              go_simp
              with_reducible rfl
            rotate_left
            · simp only [Act.put, List.setIfInBounds_toArray, List.set_cons_zero, List.set_cons_succ, i64_w, i32_w]
              rfl
            refine pure_ (i := 7) (N := some 88) (v := ?_) (a' := ?_) #[true, true, true, true, true, true, true, true, false, false, false, false, false, false, false, false, false, false, false, false, false, false, false, false, false, false, false, false, false, false, false, false, false] rfl rfl (by kernel_rfl) (fun _ _ _ h => h) (Or.inl ⟨by rfl, ?_⟩) ?_ ?_
            rotate_left
            · intro w'
              go_simp
              with_reducible rfl
            rotate_left
            · simp only [Act.put, List.setIfInBounds_toArray, List.set_cons_zero, List.set_cons_succ, i64_w, i32_w]
              rfl
            refine pure_ (i := 8) (N := some 89) (v := ?_) (a' := ?_) #[true, true, true, true, true, true, true, true, true, false, false, false, false, false, false, false, false, false, false, false, false, false, false, false, false, false, false, false, false, false, false, false, false] rfl rfl (by kernel_rfl) (fun _ _ _ h => h) (Or.inl ⟨by rfl, ?_⟩) ?_ ?_
            rotate_left
            · intro w'
              go_simp
              with_reducible rfl
            rotate_left
            · simp only [Act.put, List.setIfInBounds_toArray, List.set_cons_zero, List.set_cons_succ, i64_w, i32_w]
              rfl
            refine pure_ (i := 9) (N := some 90) (v := ?_) (a' := ?_) #[true, true, true, true, true, true, true, true, true, true, false, false, false, false, false, false, false, false, false, false, false, false, false, false, false, false, false, false, false, false, false, false, false] rfl rfl (by kernel_rfl) (fun _ _ _ h => h) (Or.inl ⟨by rfl, ?_⟩) ?_ ?_
            rotate_left
            · intro w'
              go_simp
              with_reducible rfl
            rotate_left
            · simp only [Act.put, List.setIfInBounds_toArray, List.set_cons_zero, List.set_cons_succ, i64_w, i32_w]
              rfl
            refine pure_ (i := 10) (N := some 91) (v := ?_) (a' := ?_) #[true, true, true, true, true, true, true, true, true, true, true, false, false, false, false, false, false, false, false, false, false, false, false, false, false, false, false, false, false, false, false, false, false] rfl rfl (by kernel_rfl) (fun _ _ _ h => h) (Or.inl ⟨by rfl, ?_⟩) ?_ ?_
            rotate_left
            · intro w'
              go_simp
              with_reducible rfl
            rotate_left
            · simp only [Act.put, List.setIfInBounds_toArray, List.set_cons_zero, List.set_cons_succ, i64_w, i32_w]
              rfl
            refine pure_ (i := 12) (N := some 93) (v := ?_) (a' := ?_) #[true, true, true, true, true, true, true, true, true, true, true, false, true, false, false, false, false, false, false, false, false, false, false, false, false, false, false, false, false, false, false, false, false] rfl rfl (by kernel_rfl) (fun _ _ _ h => h) (Or.inl ⟨by rfl, ?_⟩) ?_ ?_
            rotate_left
            · intro w'
              go_simp
              with_reducible rfl
            rotate_left
            · simp only [Act.put, List.setIfInBounds_toArray, List.set_cons_zero, List.set_cons_succ, i64_w, i32_w]
              rfl
            refine pure_ (i := 13) (N := some 94) (v := ?_) (a' := ?_) #[true, true, true, true, true, true, true, true, true, true, true, false, true, true, false, false, false, false, false, false, false, false, false, false, false, false, false, false, false, false, false, false, false] rfl rfl (by kernel_rfl) (fun _ _ _ h => h) (Or.inl ⟨by rfl, ?_⟩) ?_ ?_
            rotate_left
            · intro w'
              go_simp
              with_reducible rfl
            rotate_left
            · simp only [Act.put, List.setIfInBounds_toArray, List.set_cons_zero, List.set_cons_succ, i64_w, i32_w]
              rfl
            refine pure_ (i := 14) (N := some 95) (v := ?_) (a' := ?_) #[true, true, true, true, true, true, true, true, true, true, true, false, true, true, true, false, false, false, false, false, false, false, false, false, false, false, false, false, false, false, false, false, false] rfl rfl (by kernel_rfl) (fun _ _ _ h => h) (Or.inl ⟨by rfl, ?_⟩) ?_ ?_
            rotate_left
            · intro w'
              go_simp
              with_reducible rfl
            rotate_left
            · simp only [Act.put, List.setIfInBounds_toArray, List.set_cons_zero, List.set_cons_succ, i64_w, i32_w]
              rfl
            refine take_ (i := 11) (N := some 92) (v := ?_) (a' := ?_) #[true, true, true, true, true, true, true, true, true, true, true, true, true, true, true, false, false, false, false, false, false, false, false, false, false, false, false, false, false, false, false, false, false] rfl rfl (by kernel_rfl) (fun _ _ _ h => h) (Or.inl ⟨by rfl, ?_⟩) hHeld ?_ ?_
            rotate_left
            · rintro w' ⟨s0, s1, s2⟩
              go_simp
              with_reducible rfl
            rotate_left
            · simp only [Act.put, List.setIfInBounds_toArray, List.set_cons_zero, List.set_cons_succ, i64_w, i32_w]
              rfl
            refine one_ (i := 15) (N := some 96) #[true, true, true, true, true, true, true, true, true, true, true, true, true, true, true, true, false, false, false, false, false, false, false, false, false, false, false, false, false, false, false, false, false] rfl rfl (by kernel_rfl) (by decide) (fun K hK => ?_)
            refine goes_ Try.func13 (by kernel_rfl) rfl #[.string x.key, .agg #[.string a, .string c]] (by rfl) rfl rfl (by simp only [List.map_toArray, List.map_cons, List.map_nil]; rfl) ?_
            refine (within_calls x.key a c (by omega) (by have := HSZ.out.1; omega) _).mono ?_
            rintro e_ w9 ⟨rfl, hbl⟩
            refine ⟨_, rfl, ?_⟩
            have HS_ := HS.drew.later hbl
            clear HS
            have HS := HS_
            clear HS_ hbl
            rw [hwi]
            refine hK.out _ _ ⟨HS.cell 0, HS.cell 1, (by rw [← HY.out]; exact (ht_cells (HS.mv 1) m hml).1)⟩ (fun hHeld => ?_)
            clear hK K
            refine norm_ (a' := ?_) ?_ ?_
            rotate_left
            · show Act.put _ (some 96) _ = _
              simp only [Act.put, List.setIfInBounds_toArray, List.set_cons_zero, List.set_cons_succ, i64_w, i32_w]
              rfl
            refine pure_ (i := 16) (N := some 97) (v := ?_) (a' := ?_) #[true, true, true, true, true, true, true, true, true, true, true, true, true, true, true, true, true, false, false, false, false, false, false, false, false, false, false, false, false, false, false, false, false] rfl rfl (by kernel_rfl) (fun _ _ _ h => h) (Or.inl ⟨by rfl, ?_⟩) ?_ ?_
            rotate_left
            · intro w'
              go_simp
              with_reducible rfl
            rotate_left
            · simp only [Act.put, List.setIfInBounds_toArray, List.set_cons_zero, List.set_cons_succ, i64_w, i32_w]
              rfl
            refine pure_ (i := 17) (N := some 98) (v := ?_) (a' := ?_) #[true, true, true, true, true, true, true, true, true, true, true, true, true, true, true, true, true, true, false, false, false, false, false, false, false, false, false, false, false, false, false, false, false] rfl rfl (by kernel_rfl) (fun _ _ _ h => h) (Or.inl ⟨by rfl, ?_⟩) ?_ ?_
            rotate_left
            · intro w'
              go_simp
              with_reducible rfl
            rotate_left
            · simp only [Act.put, List.setIfInBounds_toArray, List.set_cons_zero, List.set_cons_succ, i64_w, i32_w]
              rfl
            refine pure_ (i := 18) (N := some 99) (v := ?_) (a' := ?_) #[true, true, true, true, true, true, true, true, true, true, true, true, true, true, true, true, true, true, true, false, false, false, false, false, false, false, false, false, false, false, false, false, false] rfl rfl (by kernel_rfl) (fun _ _ _ h => h) (Or.inl ⟨by rfl, ?_⟩) ?_ ?_
            rotate_left
            · intro w'
              go_simp
              with_reducible rfl
            rotate_left
            · simp only [Act.put, List.setIfInBounds_toArray, List.set_cons_zero, List.set_cons_succ, i64_w, i32_w]
              rfl
            refine pure_ (i := 19) (N := some 100) (v := ?_) (a' := ?_) #[true, true, true, true, true, true, true, true, true, true, true, true, true, true, true, true, true, true, true, true, false, false, false, false, false, false, false, false, false, false, false, false, false] rfl rfl (by kernel_rfl) (fun _ _ _ h => h) (Or.inl ⟨by rfl, ?_⟩) ?_ ?_
            rotate_left
            · intro w'
              go_simp
              with_reducible rfl
            rotate_left
            · simp only [Act.put, List.setIfInBounds_toArray, List.set_cons_zero, List.set_cons_succ, i64_w, i32_w]
              rfl
            refine pure_ (i := 20) (N := some 101) (v := ?_) (a' := ?_) #[true, true, true, true, true, true, true, true, true, true, true, true, true, true, true, true, true, true, true, true, true, false, false, false, false, false, false, false, false, false, false, false, false] rfl rfl (by kernel_rfl) (fun _ _ _ h => h) (Or.inl ⟨by rfl, ?_⟩) ?_ ?_
            rotate_left
            · intro w'
              go_simp
              with_reducible rfl
            rotate_left
            · simp only [Act.put, List.setIfInBounds_toArray, List.set_cons_zero, List.set_cons_succ, i64_w, i32_w]
              rfl
            refine pure_ (i := 21) (N := some 102) (v := ?_) (a' := ?_) #[true, true, true, true, true, true, true, true, true, true, true, true, true, true, true, true, true, true, true, true, true, true, false, false, false, false, false, false, false, false, false, false, false] rfl rfl (by kernel_rfl) (fun _ _ _ h => h) (Or.inl ⟨by rfl, ?_⟩) ?_ ?_
            rotate_left
            · intro w'
              go_simp
              with_reducible rfl
            rotate_left
            · simp only [Act.put, List.setIfInBounds_toArray, List.set_cons_zero, List.set_cons_succ, i64_w, i32_w]
              rfl
            refine pure_ (i := 22) (N := some 103) (v := ?_) (a' := ?_) #[true, true, true, true, true, true, true, true, true, true, true, true, true, true, true, true, true, true, true, true, true, true, true, false, false, false, false, false, false, false, false, false, false] rfl rfl (by kernel_rfl) (fun _ _ _ h => h) (Or.inl ⟨by rfl, ?_⟩) ?_ ?_
            rotate_left
            · intro w'
              go_simp
              with_reducible rfl
            rotate_left
            · simp only [Act.put, List.setIfInBounds_toArray, List.set_cons_zero, List.set_cons_succ, i64_w, i32_w]
              rfl
            refine pure_ (i := 23) (N := some 104) (v := ?_) (a' := ?_) #[true, true, true, true, true, true, true, true, true, true, true, true, true, true, true, true, true, true, true, true, true, true, true, true, false, false, false, false, false, false, false, false, false] rfl rfl (by kernel_rfl) (fun _ _ _ h => h) (Or.inl ⟨by rfl, ?_⟩) ?_ ?_
            rotate_left
            · intro w'
              go_simp
              with_reducible rfl
            rotate_left
            · simp only [Act.put, List.setIfInBounds_toArray, List.set_cons_zero, List.set_cons_succ, i64_w, i32_w]
              rfl
            refine pure_ (i := 24) (N := some 105) (v := ?_) (a' := ?_) #[true, true, true, true, true, true, true, true, true, true, true, true, true, true, true, true, true, true, true, true, true, true, true, true, true, false, false, false, false, false, false, false, false] rfl rfl (by kernel_rfl) (fun _ _ _ h => h) (Or.inl ⟨by rfl, ?_⟩) ?_ ?_
            rotate_left
            · intro w'
              go_simp
              with_reducible rfl
            rotate_left
            · simp only [Act.put, List.setIfInBounds_toArray, List.set_cons_zero, List.set_cons_succ, i64_w, i32_w]
              rfl
            refine pure_ (i := 25) (N := some 106) (v := ?_) (a' := ?_) #[true, true, true, true, true, true, true, true, true, true, true, true, true, true, true, true, true, true, true, true, true, true, true, true, true, true, false, false, false, false, false, false, false] rfl rfl (by kernel_rfl) (fun _ _ _ h => h) (Or.inl ⟨by rfl, ?_⟩) ?_ ?_
            rotate_left
            · intro w'
              go_simp
              with_reducible rfl
            rotate_left
            · simp only [Act.put, List.setIfInBounds_toArray, List.set_cons_zero, List.set_cons_succ, i64_w, i32_w]
              rfl
            refine pure_ (i := 26) (N := some 107) (v := ?_) (a' := ?_) #[true, true, true, true, true, true, true, true, true, true, true, true, true, true, true, true, true, true, true, true, true, true, true, true, true, true, true, false, false, false, false, false, false] rfl rfl (by kernel_rfl) (fun _ _ _ h => h) (Or.inl ⟨by rfl, ?_⟩) ?_ ?_
            rotate_left
            · intro w'
              go_simp
              with_reducible rfl
            rotate_left
            · simp only [Act.put, List.setIfInBounds_toArray, List.set_cons_zero, List.set_cons_succ, i64_w, i32_w]
              rfl
            refine pure_ (i := 28) (N := some 109) (v := ?_) (a' := ?_) #[true, true, true, true, true, true, true, true, true, true, true, true, true, true, true, true, true, true, true, true, true, true, true, true, true, true, true, false, true, false, false, false, false] rfl rfl (by kernel_rfl) (fun _ _ _ h => h) (Or.inl ⟨by rfl, ?_⟩) ?_ ?_
            rotate_left
            · intro w'
              go_simp
              with_reducible rfl
            rotate_left
            · simp only [Act.put, List.setIfInBounds_toArray, List.set_cons_zero, List.set_cons_succ, i64_w, i32_w]
              rfl
            refine take_ (i := 27) (N := some 108) (v := ?_) (a' := ?_) #[true, true, true, true, true, true, true, true, true, true, true, true, true, true, true, true, true, true, true, true, true, true, true, true, true, true, true, true, true, false, false, false, false] rfl rfl (by kernel_rfl) (fun _ _ _ h => h) (Or.inl ⟨by rfl, ?_⟩) hHeld ?_ ?_
            rotate_left
            · rintro w' ⟨s0, s1, s2⟩
              go_simp
              with_reducible rfl
            rotate_left
            · simp only [Act.put, List.setIfInBounds_toArray, List.set_cons_zero, List.set_cons_succ, i64_w, i32_w]
              rfl
            refine take_ (i := 29) (N := some 110) (v := ?_) (a' := ?_) #[true, true, true, true, true, true, true, true, true, true, true, true, true, true, true, true, true, true, true, true, true, true, true, true, true, true, true, true, true, true, false, false, false] rfl rfl (by kernel_rfl) (fun _ _ _ h => h) (Or.inl ⟨by rfl, ?_⟩) hHeld ?_ ?_
            rotate_left
            · rintro w' ⟨s0, s1, s2⟩
              go_simp
              with_reducible rfl
            rotate_left
            · simp only [Act.put, List.setIfInBounds_toArray, List.set_cons_zero, List.set_cons_succ, i64_w, i32_w]
              rfl
            refine pure_ (i := 30) (N := some 111) (v := ?_) (a' := ?_) #[true, true, true, true, true, true, true, true, true, true, true, true, true, true, true, true, true, true, true, true, true, true, true, true, true, true, true, true, true, true, true, false, false] rfl rfl (by kernel_rfl) (fun _ _ _ h => h) (Or.inl ⟨by rfl, ?_⟩) ?_ ?_
            rotate_left
            · intro w'
              go_simp
              with_reducible rfl
            rotate_left
            · simp only [Act.put, List.setIfInBounds_toArray, List.set_cons_zero, List.set_cons_succ, i64_w, i32_w]
              rfl
            refine pure_ (i := 31) (N := some 112) (v := ?_) (a' := ?_) #[true, true, true, true, true, true, true, true, true, true, true, true, true, true, true, true, true, true, true, true, true, true, true, true, true, true, true, true, true, true, true, true, false] rfl rfl (by kernel_rfl) (fun _ _ _ h => h) (Or.inl ⟨by rfl, ?_⟩) ?_ ?_
            rotate_left
            · intro w'
              go_simp
              with_reducible rfl
            rotate_left
            · simp only [Act.put, List.setIfInBounds_toArray, List.set_cons_zero, List.set_cons_succ, i64_w, i32_w]
              rfl
            refine pure_ (i := 32) (N := some 113) (v := ?_) (a' := ?_) #[true, true, true, true, true, true, true, true, true, true, true, true, true, true, true, true, true, true, true, true, true, true, true, true, true, true, true, true, true, true, true, true, true] rfl rfl (by kernel_rfl) (fun _ _ _ h => h) (Or.inl ⟨by rfl, ?_⟩) ?_ ?_
            rotate_left
            · intro w'
              go_simp
              with_reducible rfl
            rotate_left
            · simp only [Act.put, List.setIfInBounds_toArray, List.set_cons_zero, List.set_cons_succ, i64_w, i32_w]
              rfl
            refine done_ (by kernel_rfl) ?_
            clear hHeld
            go_wp2
            go_roundw
            case rel => exact ⟨j + 1, by omega, by go_num, HS.out 0⟩
            case measure => (simp [intOf]) <;> omega
        · obtain rfl : j = xs.length := by omega
          have hjd : decide ((xs.length : Int) < (xs.length : Int)) = false := decide_eq_false (by omega)
          obtain ⟨A2, c2, rfl, hc2, hC2⟩ := St.row_C (HS.mv 1)
          obtain ⟨A4, c4, rfl, hc4, hC4⟩ := St.row_C (HS.mv 2)
          clear hC2 hC4
          have hzy : zs.length + ys.length = xs.length := by rw [← HM.out, List.length_append]
          go_wp2_with (first
            | ((with_reducible refine gate_dst (N := 115) rfl ?_); refine ev_lit kHt 39 ?hg (N := 115) ?hd (xs := ([] : List Ht)) (inner := []) HS ?hr ?hp (by decide) ?_; (case hd => rfl); (case hg => rfl); (case hr => first | (go_simp; done) | (go_simp; rfl)); (case hp => exact Reps.none _ _); intro v1 w7 HS_; clear HS; have HS := HS_; clear HS_)
            | ((with_reducible refine gate_dst (N := 117) rfl ?_); at_builtin; refine ev_rows kHt flatHt rfl (.tmp 115) (.tmp 116) 34 39 _ 40 rfl Try.underlying34 infoHt rfl (by decide) (by omega) v1 [] zs _ c4 rfl rfl HS ?hc ?hl ?_; (case hc => exact (St.row_reads (HS.mv 3)).2.2); (case hl => (simp) <;> omega); intro v2 w8 HS_; clear HS; have HS := HS_; clear HS_; rw [List.nil_append] at HS)
            | ((with_reducible refine gate_dst (N := 119) rfl ?_); at_builtin; refine ev_rows kHt flatHt rfl (.tmp 117) (.tmp 118) 34 39 _ 40 rfl Try.underlying34 infoHt rfl (by decide) (by omega) v2 zs ys _ c2 rfl rfl HS ?hc ?hl ?_; (case hc => exact (St.row_reads (HS.mv 2)).2.2); (case hl => omega); intro v3 w9 HS_; clear HS; have HS := HS_; clear HS_; rw [HM.out] at HS))
          refine ((sameHits_fun v3 _ xs (by omega)).call (F := [HP.row kHt 39 _ ys, HP.row kHt 39 _ zs]) HS (fun _ _ _ _ => trivial)).mono ?_
          rintro e_ w10 ⟨rfl, HS_⟩
          clear HS
          go_wp2
          go_ret
          exact ⟨rfl, (((HS_.out 0).out 0).out 0).out 0⟩
end Go.Proofs.Ytepenfgeeggjmaa.Ver
