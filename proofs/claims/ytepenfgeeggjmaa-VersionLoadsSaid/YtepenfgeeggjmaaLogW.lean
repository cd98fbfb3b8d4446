/- The document's store: its list; Newest and Put, walked. -/
import Derived.Test.YtepenfgeeggjmaaPartsV
namespace Go.Proofs.Ytepenfgeeggjmaa.Ver
open Go.RowKit Go.Proofs.YtepenfgeeggjmaaW.PrintWords Go.Proofs.YtepenfgeeggjmaaW.PrintLast Go.Proofs.YtepenfgeeggjmaaW.PrintMore Go.Proofs.Ytepenfgeeggjmaa.Sl Go.Proofs.Ytepenfgeeggjmaa.Str Go.Proofs.Ytepenfgeeggjmaa.Row
set_option linter.unusedVariables false
set_option linter.unusedSimpArgs false
def kOne : Kd (ByteArray × Vn) := Kd.pair Kd.string kVn
theorem kOne_open {w : World} {x : ByteArray × Vn} {cs : List Value} (h : kOne.K w x cs) : cs = [.string x.1, .int .i64 x.2.ts, .string x.2.val, .bool x.2.dead] := by
  obtain ⟨_, _, rfl, rfl, ⟨_, _, rfl, rfl, ⟨_, _, rfl, rfl, rfl⟩⟩⟩ := h
  exact rfl
theorem kOne_mkM (w : World) (base : Nat) (ok : Nat → Prop) (x : ByteArray × Vn) : kOne.M w base ok x [.string x.1, .int .i64 x.2.ts, .string x.2.val, .bool x.2.dead] := ⟨[.string x.1], _, rfl, rfl, kVn_mkM w base ok x.2⟩
theorem infoOne : (Try.prog.info? 68).map (fun i => (i.zero, i.size, i.bytes)) = some (some (.agg #[.string ⟨#[]⟩, .int .i64 0, .string ⟨#[]⟩, .bool false]), 4, 48) := by kernel_rfl
theorem flatOne : Flat kOne := fun w b x cs h => by
  obtain rfl := kOne_open h
  exact kOne_mkM _ _ _ _
def logH (g : Nat) (u : Value) (log : Log) : HP := Sl.all [HP.obj g 45 [u], HP.row kOne 68 u log]
theorem logH_open {w0 w : World} {S0 : Nat → Prop} {F : List HP} {g : Nat} {u : Value} {log : Log} (h : St w0 S0 w (logH g u log :: F)) : St w0 S0 w (HP.obj g 45 [u] :: HP.row kOne 68 u log :: F) := h.all_
theorem logH_shut {w0 w : World} {S0 : Nat → Prop} {F : List HP} {g : Nat} {u : Value} {log : Log} (h : St w0 S0 w (HP.obj g 45 [u] :: HP.row kOne 68 u log :: F)) : St w0 S0 w (logH g u log :: F) := St.unall (L := [_, _]) h
theorem one_cells {w0 w : World} {S0 : Nat → Prop} {F : List HP} {g n c : Nat} {xs : Log} (h : St w0 S0 w (HP.row kOne 68 (.slice (some ⟨g, 0, none⟩) n c) xs :: F)) (j : Nat) (hj : j < xs.length) :
    w.cell? ⟨g, j * 4, none⟩ = some (.string xs[j].1) ∧ w.cell? ⟨g, j * 4 + 1, none⟩ = some (.int .i64 xs[j].2.ts) ∧ w.cell? ⟨g, j * 4 + 2, none⟩ = some (.string xs[j].2.val) ∧ w.cell? ⟨g, j * 4 + 3, none⟩ = some (.bool xs[j].2.dead) := by
  have hf := fun i hi => flat_cell (enc := fun x : ByteArray × Vn => [.string x.1, .int .i64 x.2.ts, .string x.2.val, .bool x.2.dead]) kOne_open h j hj i hi
  exact ⟨hf 0 (by simp), hf 1 (by simp), hf 2 (by simp), hf 3 (by simp)⟩
/-- The newest of a list's first puts. -/
theorem newestL_snoc (log : Log) (p : ByteArray × Vn) (k : ByteArray) : newestL (log ++ [p]) k = if p.1 = k then p.2.ts else newestL log k := by
  obtain ⟨k', v⟩ := p
  unfold newestL
  by_cases h : k' = k
  · subst h
    rw [ofKey_same, if_pos rfl]
    simp [lastTs]
  · rw [ofKey_other _ _ _ _ h, if_neg h]
theorem newestL_take (log : Log) (j : Nat) (hj : j < log.length) (k : ByteArray) : newestL (log.take (j + 1)) k = if log[j].1 = k then log[j].2.ts else newestL (log.take j) k := by
  rw [List.take_succ_eq_append_getElem hj, newestL_snoc]
theorem newestL_nil (k : ByteArray) : newestL [] k = 0 := rfl
theorem eq_fact {a b : ByteArray} (h : a = b) : (a.toList == b.toList) = true := by subst h; simp
theorem ne_fact {a b : ByteArray} (h : ¬ a = b) : (a.toList == b.toList) = false := by
  rw [beq_cmp]
  exact decide_eq_false (fun e => h (cmpS_zero a b e))
set_option maxHeartbeats 4000000 in
set_option maxRecDepth 20000 in
theorem refNewest_fun (g : Nat) (u : Value) (log : Log) (hl : log.length ≤ 1000000) (key : ByteArray) :
    FunV Try.prog 17 #[.pointer (some ⟨g, 0, none⟩), .string key] (fun _ => True) [logH g u log] (.int .i64 (newestL log key)) [logH g u log] := by
  intro w S hS hR
  have HS := logH_open (St.start hS)
  clear hS hR
  have hu45 := Try.underlying45
  have hu43 := Try.underlying43
  have hu68 := Try.underlying68
  have hu29 := Try.underlying29
  obtain ⟨A, c, rfl, hc, hC⟩ := St.row_C (HS.mv 1)
  clear hC
  go_enter Try.func17, Try.ntmps17
  go_wp2_with fail
  go_loopw [5, 6] (fun v5 v6 w' => ∃ j : Nat, j ≤ log.length ∧ v5 = .int .i64 (newestL (log.take j) key) ∧ v6 = .int .i64 j ∧ St w S w' [HP.obj g 45 [.slice A log.length c], HP.row kOne 68 (.slice A log.length c) log]) (fun _ v6 _ => log.length - (intOf v6).toNat)
  case atStart => exact ⟨0, Nat.zero_le _, rfl, rfl, HS⟩
  case round =>
    clear HS
    obtain ⟨j, hj, rfl, rfl, HS⟩ := hrel
    have q0 : wr.cell? ⟨g, 0, none⟩ = some (.slice A log.length c) := HS.cell 0
    by_cases hlt : j < log.length
    · have hltI : (j : Int) < (log.length : Int) := by omega
      have hj0 : (0 : Int) ≤ (j : Int) := by omega
      have hjd : decide ((j : Int) < (log.length : Int)) = true := decide_eq_true hltI
      obtain ⟨g3, c3, ev⟩ := St.row_form (HS.mv 1) (by omega)
      obtain ⟨rfl, -, rfl⟩ : A = some ⟨g3, 0, none⟩ ∧ log.length = log.length ∧ c = c3 := by simpa using ev
      clear ev
      obtain ⟨i0, i1, i2, i3⟩ := one_cells (HS.mv 1) j hlt
      have hnx := newestL_take log j hlt key
      obtain ⟨x, hx⟩ : ∃ x, log[j] = x := ⟨_, rfl⟩
      rw [hx] at i0 i1 i2 i3 hnx
      clear hx
      by_cases hk : x.1 = key
      · rw [if_pos hk] at hnx
        have HNX := Aside0.mk hnx
        have hke := eq_fact hk
        clear hnx hk
        go_wp2
        go_roundw
        case rel => exact ⟨j + 1, by omega, by rw [HNX.out], by go_num, HS⟩
        case measure => simp [intOf]; omega
      · rw [if_neg hk] at hnx
        have HNX := Aside0.mk hnx
        have hke := ne_fact hk
        clear hnx hk
        go_wp2
        go_roundw
        case rel => exact ⟨j + 1, by omega, by rw [HNX.out], by go_num, HS⟩
        case measure => simp [intOf]; omega
    · obtain rfl : j = log.length := by omega
      have hjd : decide ((log.length : Int) < (log.length : Int)) = false := decide_eq_false (by omega)
      rw [List.take_length]
      go_wp2
      go_ret
      exact ⟨rfl, logH_shut HS⟩
set_option maxHeartbeats 4000000 in
set_option maxRecDepth 20000 in
theorem refPut_fun (g : Nat) (u : Value) (log : Log) (hl : log.length ≤ 1000000) (key : ByteArray) (v : Vn) :
    Fun Try.prog 14 #[.pointer (some ⟨g, 0, none⟩), .string key, .agg #[.int .i64 v.ts, .string v.val, .bool v.dead]] (fun _ => True) [logH g u log]
      (fun r => [HP.ex fun u' : Value => HP.and (r = .int .i64 (putErrL log key v)) (logH g u' (putL log key v))]) := by
  intro w S hS hR
  have HS := logH_open (St.start hS)
  clear hS hR
  have hu45 := Try.underlying45
  have hu43 := Try.underlying43
  have hu68 := Try.underlying68
  have hu29 := Try.underlying29
  have hnew := Aside0.mk (refNewest_fun g u log hl key)
  go_enter Try.func14, Try.ntmps14
  by_cases hv : v.ts < 1
  · have hvd : decide (v.ts < 1) = true := decide_eq_true hv
    have he : putErrL log key v = 1 := by unfold putErrL; rw [if_pos hv]
    have hp : putL log key v = log := by unfold putL; rw [he]; rfl
    have HE := Aside0.mk he
    have HP_ := Aside0.mk hp
    clear he hp
    go_wp2_with ((with_reducible refine gate_dst (N := 5) rfl ?_); refine ev_box ?hg (N := 5) ?hd (cs := [.int .i64 v.ts, .string v.val, .bool v.dead]) (t := 29) HS ?hr ?_; (case hd => rfl); (case hg => rfl); (case hr => first | (go_simp; done) | (go_simp; rfl)); intro vb w1 HS_ hg_; clear HS; have HS := HS_; clear HS_; have q0 := HS.cell 0)
    go_ret
    refine ⟨_, rfl, St.ex_in u (St.and_in ?_ ?_)⟩
    · first | (rw [HE.out]; done) | (rw [HE.out]; rfl)
    · rw [HP_.out]; exact logH_shut (HS.out 0)
  · have hvd : decide (v.ts < 1) = false := decide_eq_false hv
    go_wp2_with ((with_reducible refine gate_dst (N := 5) rfl ?_); refine ev_box ?hg (N := 5) ?hd (cs := [.int .i64 v.ts, .string v.val, .bool v.dead]) (t := 29) HS ?hr ?_; (case hd => rfl); (case hg => rfl); (case hr => first | (go_simp; done) | (go_simp; rfl)); intro vb w1 HS_ hg_; clear HS; have HS : St w S w1 [HP.obj vb 29 [.int .i64 v.ts, .string v.val, .bool v.dead], HP.obj g 45 [u], HP.row kOne 68 u log] := HS_; clear HS_; have q0 : w1.cell? ⟨vb, 0, none⟩ = some (.int .i64 v.ts) := HS.cell 0)
    clear q0
    refine start_ (n := 6) (S := fun w' => w'.cell? ⟨vb, 0, none⟩ = some (.int .i64 v.ts)) (ds := []) #[false, false, false, false, false, false] (by kernel_rfl) rfl rfl (HS.drew.cell 0) (fun hHeld => ?_)
    refine pure_ (i := 0) (N := some 10) (v := ?_) (a' := ?_) #[true, false, false, false, false, false] rfl rfl (by kernel_rfl) (fun _ _ _ h => h) (Or.inl ⟨by rfl, ?_⟩) ?_ ?_
    rotate_left
    · intro w'
      go_simp
      with_reducible rfl
    rotate_left
    · simp only [Act.put, List.setIfInBounds_toArray, List.set_cons_zero, List.set_cons_succ, i64_w, i32_w]
      rfl
    refine pure_ (i := 2) (N := some 12) (v := ?_) (a' := ?_) #[true, false, true, false, false, false] rfl rfl (by kernel_rfl) (fun _ _ _ h => h) (Or.inl ⟨by rfl, ?_⟩) ?_ ?_
    rotate_left
    · intro w'
      go_simp
      with_reducible rfl
    rotate_left
    · simp only [Act.put, List.setIfInBounds_toArray, List.set_cons_zero, List.set_cons_succ, i64_w, i32_w]
      rfl
    refine pure_ (i := 3) (N := some 13) (v := ?_) (a' := ?_) #[true, false, true, true, false, false] rfl rfl (by kernel_rfl) (fun _ _ _ h => h) (Or.inl ⟨by rfl, ?_⟩) ?_ ?_
    rotate_left
    · intro w'
      go_simp
      with_reducible rfl
    rotate_left
    · simp only [Act.put, List.setIfInBounds_toArray, List.set_cons_zero, List.set_cons_succ, i64_w, i32_w]
      rfl
    refine take_ (i := 1) (N := some 11) (v := ?_) (a' := ?_) #[true, true, true, true, false, false] rfl rfl (by kernel_rfl) (fun _ _ _ h => h) (Or.inl ⟨by rfl, ?_⟩) hHeld ?_ ?_
    rotate_left
    · intro w' s0
      go_simp
      with_reducible rfl
    rotate_left
    · simp only [Act.put, List.setIfInBounds_toArray, List.set_cons_zero, List.set_cons_succ, i64_w, i32_w]
      rfl
    refine one_ (i := 4) (N := some 14) #[true, true, true, true, true, false] rfl rfl (by kernel_rfl) (by decide) (fun K hK => ?_)
    refine goes_ Try.func17 (by kernel_rfl) rfl #[.pointer (some ⟨g, 0, none⟩), .string key] (by rfl) rfl rfl (by simp only [List.map_toArray, List.map_cons, List.map_nil]; rfl) ?_
    refine (hnew.out.call (F := [HP.obj vb 29 [.int .i64 v.ts, .string v.val, .bool v.dead]]) (logH_shut ((HS.drew.mv 2).mv 2)) (fun _ _ _ _ => trivial)).mono ?_
    rintro e_ w2 ⟨rfl, HS_⟩
    refine ⟨_, rfl, ?_⟩
    have HS__ := (logH_open HS_).mv 2
    clear HS HS_
    have HS := HS__
    clear HS__
    refine hK.out _ _ (HS.cell 0) (fun hHeld => ?_)
    clear hK K
    refine norm_ (a' := ?_) ?_ ?_
    rotate_left
    · show Act.put _ (some 14) _ = _
      simp only [Act.put, List.setIfInBounds_toArray, List.set_cons_zero, List.set_cons_succ, i64_w, i32_w]
      rfl
    refine pure_ (i := 5) (N := some 15) (v := ?_) (a' := ?_) #[true, true, true, true, true, true] rfl rfl (by kernel_rfl) (fun _ _ _ h => h) (Or.inl ⟨by rfl, ?_⟩) ?_ ?_
    rotate_left
    · intro w'
      go_simp
      with_reducible rfl
    rotate_left
    · simp only [Act.put, List.setIfInBounds_toArray, List.set_cons_zero, List.set_cons_succ, i64_w, i32_w]
      rfl
    refine done_ (by kernel_rfl) ?_
    clear hHeld
    by_cases hn : v.ts ≤ newestL log key
    · have hnd : decide (v.ts ≤ newestL log key) = true := decide_eq_true hn
      have he : putErrL log key v = 120 := by unfold putErrL; rw [if_neg (by omega), if_pos hn]
      have hp : putL log key v = log := by unfold putL; rw [he]; rfl
      have HE := Aside0.mk he
      have HP_ := Aside0.mk hp
      clear he hp
      go_wp2
      go_ret
      refine ⟨_, rfl, St.ex_in u (St.and_in ?_ ?_)⟩
      · first | (rw [HE.out]; done) | (rw [HE.out]; rfl)
      · rw [HP_.out]; exact logH_shut (HS.out 0)
    · have hnd : decide (v.ts ≤ newestL log key) = false := decide_eq_false hn
      have he : putErrL log key v = 0 := by unfold putErrL; rw [if_neg (by omega), if_neg hn]
      have hp : putL log key v = log ++ [(key, v)] := by unfold putL; rw [he]; rfl
      have HE := Aside0.mk he
      have HP_ := Aside0.mk hp
      clear he hp
      go_wp2_with fail
      obtain ⟨A, c, rfl, hc, hC⟩ := St.row_C (HS.mv 2)
      clear hC
      refine start_ (n := 13) (S := fun w' => w'.cell? ⟨vb, 0, none⟩ = some (.int .i64 v.ts) ∧ w'.cell? ⟨vb, 1, none⟩ = some (.string v.val) ∧ w'.cell? ⟨vb, 2, none⟩ = some (.bool v.dead) ∧ w'.cell? ⟨g, 0, none⟩ = some (.slice A log.length c)) (ds := [12]) #[false, false, false, false, false, false, false, false, false, false, false, false, false] (by kernel_rfl) rfl rfl ⟨HS.drew.cell 0, HS.drew.cell 1, HS.drew.cell 2, (HS.drew.mv 1).cell 0⟩ (fun hHeld => ?_)
      refine pure_ (i := 0) (N := some 16) (v := ?_) (a' := ?_) #[true, false, false, false, false, false, false, false, false, false, false, false, false] rfl rfl (by kernel_rfl) (fun _ _ _ h => h) (Or.inl ⟨by rfl, ?_⟩) ?_ ?_
      rotate_left
      · intro w'
        go_simp
        with_reducible rfl
      rotate_left
      · simp only [Act.put, List.setIfInBounds_toArray, List.set_cons_zero, List.set_cons_succ, i64_w, i32_w]
        rfl
      refine pure_ (i := 1) (N := some 17) (v := ?_) (a' := ?_) #[true, true, false, false, false, false, false, false, false, false, false, false, false] rfl rfl (by kernel_rfl) (fun _ _ _ h => h) (Or.inl ⟨by rfl, ?_⟩) ?_ ?_
      rotate_left
      · intro w'
        go_simp
        with_reducible rfl
      rotate_left
      · simp only [Act.put, List.setIfInBounds_toArray, List.set_cons_zero, List.set_cons_succ, i64_w, i32_w]
        rfl
      refine pure_ (i := 2) (N := some 18) (v := ?_) (a' := ?_) #[true, true, true, false, false, false, false, false, false, false, false, false, false] rfl rfl (by kernel_rfl) (fun _ _ _ h => h) (Or.inl ⟨by rfl, ?_⟩) ?_ ?_
      rotate_left
      · intro w'
        go_simp
        with_reducible rfl
      rotate_left
      · simp only [Act.put, List.setIfInBounds_toArray, List.set_cons_zero, List.set_cons_succ, i64_w, i32_w]
        rfl
      refine pure_ (i := 3) (N := some 19) (v := ?_) (a' := ?_) #[true, true, true, true, false, false, false, false, false, false, false, false, false] rfl rfl (by kernel_rfl) (fun _ _ _ h => h) (Or.inl ⟨by rfl, ?_⟩) ?_ ?_
      rotate_left
      · intro w'
        go_simp
        with_reducible rfl
      rotate_left
      · simp only [Act.put, List.setIfInBounds_toArray, List.set_cons_zero, List.set_cons_succ, i64_w, i32_w]
        rfl
      refine pure_ (i := 5) (N := some 21) (v := ?_) (a' := ?_) #[true, true, true, true, false, true, false, false, false, false, false, false, false] rfl rfl (by kernel_rfl) (fun _ _ _ h => h) (Or.inl ⟨by rfl, ?_⟩) ?_ ?_
      rotate_left
      · intro w'
        go_simp
        with_reducible rfl
      rotate_left
      · simp only [Act.put, List.setIfInBounds_toArray, List.set_cons_zero, List.set_cons_succ, i64_w, i32_w]
        rfl
      refine take_ (i := 4) (N := some 20) (v := ?_) (a' := ?_) #[true, true, true, true, true, true, false, false, false, false, false, false, false] rfl rfl (by kernel_rfl) (fun _ _ _ h => h) (Or.inl ⟨by rfl, ?_⟩) hHeld ?_ ?_
      rotate_left
      · rintro w' ⟨s0, s1, s2, s3⟩
        go_simp
        with_reducible rfl
      rotate_left
      · simp only [Act.put, List.setIfInBounds_toArray, List.set_cons_zero, List.set_cons_succ, i64_w, i32_w]
        rfl
      refine take_ (i := 6) (N := some 22) (v := ?_) (a' := ?_) #[true, true, true, true, true, true, true, false, false, false, false, false, false] rfl rfl (by kernel_rfl) (fun _ _ _ h => h) (Or.inl ⟨by rfl, ?_⟩) hHeld ?_ ?_
      rotate_left
      · rintro w' ⟨s0, s1, s2, s3⟩
        go_simp
        with_reducible rfl
      rotate_left
      · simp only [Act.put, List.setIfInBounds_toArray, List.set_cons_zero, List.set_cons_succ, i64_w, i32_w]
        rfl
      refine pure_ (i := 7) (N := some 23) (v := ?_) (a' := ?_) #[true, true, true, true, true, true, true, true, false, false, false, false, false] rfl rfl (by kernel_rfl) (fun _ _ _ h => h) (Or.inl ⟨by rfl, ?_⟩) ?_ ?_
      rotate_left
      · intro w'
        go_simp
        with_reducible rfl
      rotate_left
      · simp only [Act.put, List.setIfInBounds_toArray, List.set_cons_zero, List.set_cons_succ, i64_w, i32_w]
        rfl
      refine one_ (i := 8) (N := some 24) #[true, true, true, true, true, true, true, true, true, false, false, false, false] rfl rfl (by kernel_rfl) (by decide) (fun K hK => ?_)
      have HS_ := HS.drew.lit (d := kOne) (e := 68) (xs := [(key, v)]) (inner := [.string key, .int .i64 v.ts, .string v.val, .bool v.dead]) (reps1_ (kOne_mkM _ _ _ (key, v)) rfl) (by simp)
      refine value_ (w1 := w2.drew.alloc (Obj.cells #[.string key, .int .i64 v.ts, .string v.val, .bool v.dead] 68)) (v := .slice (some ⟨w2.drew.heap.size, 0, none⟩) 1 1) (by rfl) rfl ?hrun ?_
      case hrun => first | (go_simp; done) | (go_simp; rfl)
      clear HS
      have HS := HS_
      clear HS_
      change St w S (w2.drew.alloc _) (HP.row kOne 68 (.slice (some ⟨w2.drew.heap.size, 0, none⟩) [(key, v)].length 1) [(key, v)] :: _) at HS
      generalize w2.drew.alloc (Obj.cells #[.string key, .int .i64 v.ts, .string v.val, .bool v.dead] 68) = w20 at HS ⊢
      generalize w2.drew.heap.size = gl at HS ⊢
      refine hK.out _ _ ⟨(HS.mv 1).cell 0, (HS.mv 1).cell 1, (HS.mv 1).cell 2, (HS.mv 2).cell 0⟩ (fun hHeld => ?_)
      clear hK K
      refine norm_ (a' := ?_) ?_ ?_
      rotate_left
      · show Act.put _ (some 24) _ = _
        simp only [Act.put, List.setIfInBounds_toArray, List.set_cons_zero, List.set_cons_succ, i64_w, i32_w]
        rfl
      refine one_ (i := 9) (N := some 25) #[true, true, true, true, true, true, true, true, true, true, false, false, false] rfl rfl (by kernel_rfl) (by decide) (fun K hK => ?_)
      have HZ := HS.mv 3
      clear HS
      refine ev_rows_step kOne flatOne (by rfl) (.tmp 20) (.tmp 24) 43 68 _ 48 (by rfl) Try.underlying43 infoOne rfl (by decide) (by omega) _ log [(key, v)] _ 1 (by rfl) (by rfl) HZ (St.row_reads (HZ.mv 1)).2.2 (by simp only [List.length_singleton]; omega) ?_
      intro v25 w21 HS_
      clear HZ
      have HS := HS_
      clear HS_
      obtain ⟨A2, c2, hv25, hc2, hC2⟩ := St.row_C HS
      clear hC2
      subst hv25
      refine hK.out _ _ ⟨(HS.mv 2).cell 0, (HS.mv 2).cell 1, (HS.mv 2).cell 2, (HS.mv 3).cell 0⟩ (fun hHeld => ?_)
      clear hK K
      refine norm_ (a' := ?_) ?_ ?_
      rotate_left
      · show Act.put _ (some 25) _ = _
        simp only [Act.put, List.setIfInBounds_toArray, List.set_cons_zero, List.set_cons_succ, i64_w, i32_w]
        rfl
      refine pure_ (i := 10) (N := some 26) (v := ?_) (a' := ?_) #[true, true, true, true, true, true, true, true, true, true, true, false, false] rfl rfl (by kernel_rfl) (fun _ _ _ h => h) (Or.inl ⟨by rfl, ?_⟩) ?_ ?_
      rotate_left
      · intro w'
        go_simp
        with_reducible rfl
      rotate_left
      · simp only [Act.put, List.setIfInBounds_toArray, List.set_cons_zero, List.set_cons_succ, i64_w, i32_w]
        rfl
      refine pure_ (i := 11) (N := some 27) (v := ?_) (a' := ?_) #[true, true, true, true, true, true, true, true, true, true, true, true, false] rfl rfl (by kernel_rfl) (fun _ _ _ h => h) (Or.inl ⟨by rfl, ?_⟩) ?_ ?_
      rotate_left
      · intro w'
        go_simp
        with_reducible rfl
      rotate_left
      · simp only [Act.put, List.setIfInBounds_toArray, List.set_cons_zero, List.set_cons_succ, i64_w, i32_w]
        rfl
      refine last_ (i := 12) (N := none) #[true, true, true, true, true, true, true, true, true, true, true, true, true] rfl rfl (by kernel_rfl) (by decide) (fun K hK => ?_)
      have qf : w21.frozen? ⟨g, 0, none⟩ = false := (HS.mv 3).unfrozen 0
      have qc : w21.cell? ⟨g, 0, none⟩ = some (.slice A log.length c) := (HS.mv 3).cell 0
      have H1 := St.set (HS.mv 3) 0 (.slice A2 (log ++ [(key, v)]).length c2)
      clear HS
      have HS : St w S _ [HP.obj g 45 [.slice A2 (log ++ [(key, v)]).length c2], _, _, _] := H1
      clear H1
      refine skip_ (w1 := w21.setCell ⟨g, 0, none⟩ (.slice A2 (log ++ [(key, v)]).length c2)) (by rfl) rfl ?hrun ?_
      case hrun => first | (go_simp; done) | (go_simp; rfl)
      refine hK.out _ _ ?_
      clear hK K
      refine done_ (by kernel_rfl) ?_
      try clear hHeld
      go_wp2
      go_ret
      refine ⟨_, rfl, St.ex_in (.slice A2 (log ++ [(key, v)]).length c2) (St.and_in ?_ ?_)⟩
      · first | (rw [HE.out]; done) | (rw [HE.out]; rfl)
      · rw [HP_.out]; exact logH_shut ((HS.out 2).out 2)
end Go.Proofs.Ytepenfgeeggjmaa.Ver
