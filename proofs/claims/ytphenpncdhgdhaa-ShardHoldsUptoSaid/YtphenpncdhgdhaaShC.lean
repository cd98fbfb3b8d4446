/- lock, note, end, Record, Span, walked. -/
import Derived.Test.YtphenpncdhgdhaaShB
namespace Go.Proofs.Ytphenpncdhgdhaa.Shd
open Go.RowKit Go.Proofs.YtphenpncdhgdhaaW.PrintWords Go.Proofs.YtphenpncdhgdhaaW.PrintLast Go.Proofs.YtphenpncdhgdhaaW.PrintMore Go.Proofs.Ytphenpncdhgdhaa.Sl Go.Proofs.Ytphenpncdhgdhaa.Str Go.Proofs.Ytphenpncdhgdhaa.Ver
set_option linter.unusedVariables false
set_option linter.unusedSimpArgs false
theorem szShC70 : (Try.prog.info? 70).map (·.size) = some 1 := by kernel_rfl
theorem szShC71 : (Try.prog.info? 71).map (·.size) = some 1 := by kernel_rfl
theorem idx_lk (t : Td) : ∀ (ps : List Lp) (k : Nat), idxFrom (fun p : Lp => decide (p.l.t = t)) ps k = if hasLk (ps.map (·.l)) t then ((k + lkN (ps.map (·.l)) t : Nat) : Int) else -1
  | [], k => rfl
  | p :: r, k => by
    have ih := idx_lk t r (k + 1)
    rw [idxFrom]
    by_cases h : p.l.t = t
    · simp [h, hasLk, lkN]
    · rw [ih]
      have e1 : lkN ((p :: r).map (·.l)) t = lkN (r.map (·.l)) t + 1 := by simp [lkN, h]
      have e2 : hasLk ((p :: r).map (·.l)) t = hasLk (r.map (·.l)) t := by
        unfold hasLk
        rw [e1]
        simp
      rw [e1, e2]
      simp only [h, decide_false, Bool.false_eq_true, if_false]
      rw [show k + 1 + lkN (r.map (·.l)) t = k + (lkN (r.map (·.l)) t + 1) by omega]
theorem lk_get {lks : List Lk} {t : Td} (h : hasLk lks t = true) : ∃ l, lks[lkN lks t]? = some l ∧ l.t = t := by
  have hlt : lkN lks t < lks.length := by simpa [hasLk] using h
  refine ⟨lks[lkN lks t], List.getElem?_eq_getElem hlt, ?_⟩
  clear h
  induction lks with
  | nil => simp at hlt
  | cons p r ih =>
    by_cases hp : p.t = t
    · simp [lkN, hp]
    · have e1 : lkN (p :: r) t = lkN r t + 1 := by simp [lkN, hp]
      simp only [e1, List.length_cons] at hlt ⊢
      simpa using ih (by omega)
theorem mget_map_none {α β : Type} [DecidableEq α] (l : List (α × β)) (k : α) : mget l k = none ↔ ∀ p ∈ l, p.1 ≠ k := by
  unfold mget
  rw [Option.map_eq_none_iff, List.find?_eq_none]
  simp
theorem fnd_none {rcs : List Rc} {t : Td} : mget (fnd rcs) t = none ↔ recOf rcs t = none := by
  rw [mget_map_none]
  unfold recOf fnd
  rw [Option.map_eq_none_iff, List.find?_eq_none]
  constructor
  · intro h r hr
    obtain ⟨i, hi⟩ := List.mem_iff_getElem?.1 hr
    have := h (r.t, (i : Int)) (List.mem_map.2 ⟨(r, i), List.mk_mem_zipIdx_iff_getElem?.2 hi, rfl⟩)
    simpa using this
  · intro h p hp
    obtain ⟨q, hq, rfl⟩ := List.mem_map.1 hp
    have := h q.1 (List.mem_of_getElem? (List.mk_mem_zipIdx_iff_getElem?.1 hq))
    simpa using this
theorem fnd_some {rcs : List Rc} {t : Td} {i : Int} (h : mget (fnd rcs) t = some i) (hn : (rcs.map (·.t)).Nodup) : ∃ (k : Nat) (r : Rc), i = (k : Int) ∧ rcs[k]? = some r ∧ recOf rcs t = some r.ts := by
  unfold mget at h
  obtain ⟨p, hp, rfl⟩ := Option.map_eq_some_iff.1 h
  have h1 := List.mem_of_find?_eq_some hp
  have h2 := List.find?_some hp
  obtain ⟨q, hq, rfl⟩ := List.mem_map.1 h1
  have hq' := List.mk_mem_zipIdx_iff_getElem?.1 hq
  have ht : q.1.t = t := by simpa using h2
  refine ⟨q.2, q.1, rfl, hq', ?_⟩
  unfold recOf
  cases hf : rcs.find? (fun r => decide (r.t = t)) with
  | none =>
    have := List.find?_eq_none.1 hf q.1 (List.mem_of_getElem? hq')
    simp [ht] at this
  | some r =>
    have h3 := List.mem_of_find?_eq_some hf
    have h4 : r.t = t := by simpa using List.find?_some hf
    have : r = q.1 := by
      obtain ⟨i1, e1⟩ := List.mem_iff_getElem?.1 h3
      have hi : i1 = q.2 := by
        have a1 : (rcs.map (·.t))[i1]? = some t := by rw [List.getElem?_map, e1]; simp [h4]
        have a2 : (rcs.map (·.t))[q.2]? = some t := by rw [List.getElem?_map, hq']; simp [ht]
        obtain ⟨b1, c1⟩ := List.getElem?_eq_some_iff.1 a1
        obtain ⟨b2, c2⟩ := List.getElem?_eq_some_iff.1 a2
        have hp := List.pairwise_iff_getElem.1 hn
        rcases Nat.lt_trichotomy i1 q.2 with h5 | h5 | h5
        · exact absurd (c1.trans c2.symm) (hp _ _ b1 b2 h5)
        · exact h5
        · exact absurd (c2.trans c1.symm) (hp _ _ b2 b1 h5)
      rw [hi, hq'] at e1
      exact (Option.some.inj e1).symm
    rw [this]
    rfl
theorem fnd_put {rcs : List Rc} {t : Td} {ts : Int} (h : recOf rcs t = none) : mput (fnd rcs) t (rcs.length : Int) = fnd (rcs ++ [⟨t, ts⟩]) := by
  rw [mput_new t _ (fnd_none.2 h)]
  simp [fnd, List.zipIdx_append]
theorem gon_none {ov : List Td} {t : Td} : mget (gon ov) t = none ↔ t ∉ ov := by
  rw [mget_map_none]
  simp [gon]
  exact ⟨fun h hm => h t hm rfl, fun h a ha e => h (e ▸ ha)⟩
theorem gon_get (ov : List Td) (t : Td) : oval evB (.bool false) (mget (gon ov) t) = .bool (decide (t ∈ ov)) := by
  cases h : mget (gon ov) t with
  | none => rw [decide_eq_false (gon_none.1 h)]; rfl
  | some b =>
    have h1 : t ∈ ov := by
      refine Classical.byContradiction fun hc => ?_
      rw [gon_none.2 hc] at h
      cases h
    unfold mget at h
    obtain ⟨p, hp, rfl⟩ := Option.map_eq_some_iff.1 h
    obtain ⟨q, hq, rfl⟩ := List.mem_map.1 (List.mem_of_find?_eq_some hp)
    rw [decide_eq_true h1]
    rfl
theorem gon_put {ov : List Td} {t : Td} (h : t ∉ ov) : mput (gon ov) t true = gon (ov ++ [t]) := by
  rw [mput_new t _ (gon_none.2 h)]
  simp [gon]
def recT : Option Int → Value
  | none => .tuple #[.int .i64 0, .bool false]
  | some ts => .tuple #[.int .i64 ts, .bool true]
set_option maxHeartbeats 4000000 in
set_option maxRecDepth 20000 in
theorem lock_fun {gs gst gf gg : Nat} {Al Ar Ao : Option Addr} {cl cr co : Nat} {ps : List Lp} {rcs : List Rc} {ov : List Td} {rows : List Rw} {high : Int} {X : HP} (t : Td) (hl : ps.length ≤ 140737488355328) :
    FunV Try.prog 49 #[.pointer (some ⟨gs, 0, none⟩), .agg #[.int .i64 t.a, .int .i64 t.b, .int .i64 t.c]] (fun _ => True) [HP.obj gs 98 [.pointer (some ⟨gst, 0, none⟩), .slice Al ps.length cl, .slice Ar rcs.length cr, .map (some gf), .slice Ao ov.length co, .map (some gg), .int .i64 high], HP.row kLp 62 (.slice Al ps.length cl) ps] (.tuple #[.int .i64 (lkI (ps.map (·.l)) t), .bool (hasLk (ps.map (·.l)) t)]) [HP.obj gs 98 [.pointer (some ⟨gst, 0, none⟩), .slice Al ps.length cl, .slice Ar rcs.length cr, .map (some gf), .slice Ao ov.length co, .map (some gg), .int .i64 high], HP.row kLp 62 (.slice Al ps.length cl) ps] := by
  intro w S hS hR
  have HS := St.start hS
  clear hS hR
  have hu98 := Try.underlying98
  have hu26 := Try.underlying26
  obtain ⟨e0, he⟩ : ∃ e0, idxFrom (fun p : Lp => decide (p.l.t = t)) ps 0 = e0 := ⟨_, rfl⟩
  have h1 : lkI (ps.map (·.l)) t = e0 := by rw [← he, idx_lk]; simp [lkI]
  have h2 : hasLk (ps.map (·.l)) t = decide (e0 ≥ 0) := by
    rw [← he, idx_lk]
    cases hasLk (ps.map (·.l)) t
    · rfl
    · exact (decide_eq_true (by rw [if_pos rfl]; omega)).symm
  rw [h1, h2]
  clear h1 h2
  have HI := Aside0.mk (fun gt : Nat => idxLp_fun 74 (.pointer (some ⟨gt, 0, none⟩)) (fun p => decide (p.l.t = t)) (HP.obj gt 26 [.int .i64 t.a, .int .i64 t.b, .int .i64 t.c]) (enters Try.func74 (by kernel_rfl) (by kernel_rfl)) (fun p => lockEq_fun gt t p) Al cl ps e0 he hl)
  clear he
  go_enter Try.func49, Try.ntmps49
  go_wp2_with (first
    | ((with_reducible refine gate_dst (N := 3) rfl ?_); refine ev_box ?hg (N := 3) ?hd (cs := [.int .i64 t.a, .int .i64 t.b, .int .i64 t.c]) (t := 26) HS ?hr ?_; (case hd => rfl); (case hg => rfl); (case hr => first | (go_simp; done) | (go_simp; rfl)); intro g1 w2 HS_ hg_; clear hg_; clear HS; have HS : St w S w2 [HP.obj g1 26 [.int .i64 t.a, .int .i64 t.b, .int .i64 t.c], HP.obj gs 98 [.pointer (some ⟨gst, 0, none⟩), .slice Al ps.length cl, .slice Ar rcs.length cr, .map (some gf), .slice Ao ov.length co, .map (some gg), .int .i64 high], HP.row kLp 62 (.slice Al ps.length cl) ps] := HS_; clear HS_; have q3 := (HS.mv 1).cell 1))
  refine ((HI.out g1).call (F := [HP.obj gs 98 [.pointer (some ⟨gst, 0, none⟩), .slice Al ps.length cl, .slice Ar rcs.length cr, .map (some gf), .slice Ao ov.length co, .map (some gg), .int .i64 high], HP.row kLp 62 (.slice Al ps.length cl) ps]) HS (fun w_ S_ _ hF_ => row_at hF_ 1 rfl)).mono ?_
  rintro e_ w4 ⟨rfl, HS_⟩
  clear HS q3
  have HS : St w S w4 [HP.obj g1 26 [.int .i64 t.a, .int .i64 t.b, .int .i64 t.c], HP.obj gs 98 [.pointer (some ⟨gst, 0, none⟩), .slice Al ps.length cl, .slice Ar rcs.length cr, .map (some gf), .slice Ao ov.length co, .map (some gg), .int .i64 high], HP.row kLp 62 (.slice Al ps.length cl) ps] := HS_
  clear HS_
  go_wp2_with fail
  go_ret2
  exact ⟨rfl, (HS.out 0)⟩
set_option maxHeartbeats 4000000 in
set_option maxRecDepth 20000 in
theorem note_fun {gs gst gf gg : Nat} {Al Ar Ao : Option Addr} {cl cr co : Nat} {ps : List Lp} {rcs : List Rc} {ov : List Td} {rows : List Rw} {high : Int} {X : HP} (t : Td) (ts : Int) (hno : recOf rcs t = none) (hl : (rcs.length + 1) * 32 ≤ 140737488355328) :
    FunV Try.prog 50 #[.pointer (some ⟨gs, 0, none⟩), .agg #[.int .i64 t.a, .int .i64 t.b, .int .i64 t.c], .int .i64 ts] (fun _ => True) [HP.obj gs 98 [.pointer (some ⟨gst, 0, none⟩), .slice Al ps.length cl, .slice Ar rcs.length cr, .map (some gf), .slice Ao ov.length co, .map (some gg), .int .i64 high], HP.row kRc 109 (.slice Ar rcs.length cr) rcs, mapK gf ekT evI (fnd rcs)] (.tuple #[]) [HP.ex fun Ar2 : Option Addr => HP.ex fun cr2 : Nat => Sl.all [HP.obj gs 98 [.pointer (some ⟨gst, 0, none⟩), .slice Al ps.length cl, .slice Ar2 (rcs ++ [(⟨t, ts⟩ : Rc)]).length cr2, .map (some gf), .slice Ao ov.length co, .map (some gg), .int .i64 high], HP.row kRc 109 (.slice Ar2 (rcs ++ [(⟨t, ts⟩ : Rc)]).length cr2) (rcs ++ [(⟨t, ts⟩ : Rc)]), mapK gf ekT evI (fnd (rcs ++ [(⟨t, ts⟩ : Rc)]))]] := by
  intro w S hS hR
  have HS := St.start hS
  clear hS hR
  have HNO := Aside0.mk hno
  clear hno
  have hu98 := Try.underlying98
  have hu26 := Try.underlying26
  have hu109 := Try.underlying109
  have hl0 : (0 : Int) ≤ (rcs.length : Int) := by omega
  go_enter Try.func50, Try.ntmps50
  go_wp2_with (first
    | ((with_reducible refine gate_dst (N := 4) rfl ?_); refine ev_box ?hg (N := 4) ?hd (cs := [.int .i64 t.a, .int .i64 t.b, .int .i64 t.c]) (t := 26) HS ?hr ?_; (case hd => rfl); (case hg => rfl); (case hr => first | (go_simp; done) | (go_simp; rfl)); intro g1 w2 HS_ hg_; clear hg_; clear HS; have HS : St w S w2 [HP.obj g1 26 [.int .i64 t.a, .int .i64 t.b, .int .i64 t.c], HP.obj gs 98 [.pointer (some ⟨gst, 0, none⟩), .slice Al ps.length cl, .slice Ar rcs.length cr, .map (some gf), .slice Ao ov.length co, .map (some gg), .int .i64 high], HP.row kRc 109 (.slice Ar rcs.length cr) rcs, mapK gf ekT evI (fnd rcs)] := HS_; clear HS_))
  replace HS := HS.drew
  refine start_ (n := 11) (S := fun w' => w'.cell? ⟨gs, 3, none⟩ = some (.map (some gf)) ∧ w'.cell? ⟨g1, 0, none⟩ = some (.int .i64 t.a) ∧ w'.cell? ⟨g1, 1, none⟩ = some (.int .i64 t.b) ∧ w'.cell? ⟨g1, 2, none⟩ = some (.int .i64 t.c) ∧ w'.cell? ⟨gs, 2, none⟩ = some (.slice Ar rcs.length cr)) (ds := []) #[false, false, false, false, false, false, false, false, false, false, false] (by kernel_rfl) rfl rfl ⟨(HS.mv 1).cell 3, HS.cell 0, HS.cell 1, HS.cell 2, (HS.mv 1).cell 2⟩ (fun hHeld => ?_)
  refine pure_ (i := 0) (N := some 6) (v := ?_) (a' := ?_) #[true, false, false, false, false, false, false, false, false, false, false] rfl rfl (by kernel_rfl) (fun _ _ _ h => h) (Or.inl ⟨by rfl, ?_⟩) ?_ ?_
  rotate_left
  · intro w'
    go_simp
    with_reducible rfl
  rotate_left
  · simp only [Act.put, List.setIfInBounds_toArray, List.set_cons_zero, List.set_cons_succ, i64_w, i32_w]
    rfl
  refine pure_ (i := 1) (N := some 7) (v := ?_) (a' := ?_) #[true, true, false, false, false, false, false, false, false, false, false] rfl rfl (by kernel_rfl) (fun _ _ _ h => h) (Or.inl ⟨by rfl, ?_⟩) ?_ ?_
  rotate_left
  · intro w'
    go_simp
    with_reducible rfl
  rotate_left
  · simp only [Act.put, List.setIfInBounds_toArray, List.set_cons_zero, List.set_cons_succ, i64_w, i32_w]
    rfl
  refine pure_ (i := 2) (N := some 8) (v := ?_) (a' := ?_) #[true, true, true, false, false, false, false, false, false, false, false] rfl rfl (by kernel_rfl) (fun _ _ _ h => h) (Or.inl ⟨by rfl, ?_⟩) ?_ ?_
  rotate_left
  · intro w'
    go_simp
    with_reducible rfl
  rotate_left
  · simp only [Act.put, List.setIfInBounds_toArray, List.set_cons_zero, List.set_cons_succ, i64_w, i32_w]
    rfl
  refine pure_ (i := 5) (N := some 11) (v := ?_) (a' := ?_) #[true, true, true, false, false, true, false, false, false, false, false] rfl rfl (by kernel_rfl) (fun _ _ _ h => h) (Or.inl ⟨by rfl, ?_⟩) ?_ ?_
  rotate_left
  · intro w'
    go_simp
    with_reducible rfl
  rotate_left
  · simp only [Act.put, List.setIfInBounds_toArray, List.set_cons_zero, List.set_cons_succ, i64_w, i32_w]
    rfl
  refine pure_ (i := 6) (N := some 12) (v := ?_) (a' := ?_) #[true, true, true, false, false, true, true, false, false, false, false] rfl rfl (by kernel_rfl) (fun _ _ _ h => h) (Or.inl ⟨by rfl, ?_⟩) ?_ ?_
  rotate_left
  · intro w'
    go_simp
    with_reducible rfl
  rotate_left
  · simp only [Act.put, List.setIfInBounds_toArray, List.set_cons_zero, List.set_cons_succ, i64_w, i32_w]
    rfl
  refine pure_ (i := 7) (N := some 13) (v := ?_) (a' := ?_) #[true, true, true, false, false, true, true, true, false, false, false] rfl rfl (by kernel_rfl) (fun _ _ _ h => h) (Or.inl ⟨by rfl, ?_⟩) ?_ ?_
  rotate_left
  · intro w'
    go_simp
    with_reducible rfl
  rotate_left
  · simp only [Act.put, List.setIfInBounds_toArray, List.set_cons_zero, List.set_cons_succ, i64_w, i32_w]
    rfl
  refine take_ (i := 3) (N := some 9) (v := ?_) (a' := ?_) #[true, true, true, true, false, true, true, true, false, false, false] rfl rfl (by kernel_rfl) (fun _ _ _ h => h) (Or.inl ⟨by rfl, ?_⟩) hHeld ?_ ?_
  rotate_left
  · rintro w' ⟨s0, s1, s2, s3, s4⟩
    go_simp
    with_reducible rfl
  rotate_left
  · simp only [Act.put, List.setIfInBounds_toArray, List.set_cons_zero, List.set_cons_succ, i64_w, i32_w]
    rfl
  refine take_ (i := 4) (N := some 10) (v := ?_) (a' := ?_) #[true, true, true, true, true, true, true, true, false, false, false] rfl rfl (by kernel_rfl) (fun _ _ _ h => h) (Or.inl ⟨by rfl, ?_⟩) hHeld ?_ ?_
  rotate_left
  · rintro w' ⟨s0, s1, s2, s3, s4⟩
    go_simp
    with_reducible rfl
  rotate_left
  · simp only [Act.put, List.setIfInBounds_toArray, List.set_cons_zero, List.set_cons_succ, i64_w, i32_w]
    rfl
  refine take_ (i := 8) (N := some 14) (v := ?_) (a' := ?_) #[true, true, true, true, true, true, true, true, true, false, false] rfl rfl (by kernel_rfl) (fun _ _ _ h => h) (Or.inl ⟨by rfl, ?_⟩) hHeld ?_ ?_
  rotate_left
  · rintro w' ⟨s0, s1, s2, s3, s4⟩
    go_simp
    with_reducible rfl
  rotate_left
  · simp only [Act.put, List.setIfInBounds_toArray, List.set_cons_zero, List.set_cons_succ, i64_w, i32_w]
    rfl
  refine pure_ (i := 9) (N := some 15) (v := ?_) (a' := ?_) #[true, true, true, true, true, true, true, true, true, true, false] rfl rfl (by kernel_rfl) (fun _ _ _ h => h) (Or.inl ⟨by rfl, ?_⟩) ?_ ?_
  rotate_left
  · intro w'
    go_simp
    with_reducible rfl
  rotate_left
  · simp only [Act.put, List.setIfInBounds_toArray, List.set_cons_zero, List.set_cons_succ, i64_w, i32_w]
    rfl
  refine one_ (i := 10) (N := none) #[true, true, true, true, true, true, true, true, true, true, true] rfl rfl (by kernel_rfl) (by decide) (fun K hK => ?_)
  refine ev_mapsetK_step (by rfl) rfl 95 (.tmp 9) (.tmp 10) (.tmp 15) (.inl rfl) tid_kk (fnd (rcs ++ [(⟨t, ts⟩ : Rc)])) (HS.mv 3) (by rfl) t (by rfl) (rcs.length : Int) (by rfl) Try.underlying95 (fnd_put HNO.out) ?_
  intro w4 HS_
  clear HS
  have HS : St w S w4 [mapK gf ekT evI (fnd (rcs ++ [(⟨t, ts⟩ : Rc)])), HP.obj g1 26 [.int .i64 t.a, .int .i64 t.b, .int .i64 t.c], HP.obj gs 98 [.pointer (some ⟨gst, 0, none⟩), .slice Al ps.length cl, .slice Ar rcs.length cr, .map (some gf), .slice Ao ov.length co, .map (some gg), .int .i64 high], HP.row kRc 109 (.slice Ar rcs.length cr) rcs] := HS_
  clear HS_
  refine hK.out _ _ ⟨(HS.mv 2).cell 3, (HS.mv 1).cell 0, (HS.mv 1).cell 1, (HS.mv 1).cell 2, (HS.mv 2).cell 2⟩ (fun hHeld => ?_)
  clear hK K
  refine done_ (by kernel_rfl) ?_
  clear hHeld
  go_wp2_with fail
  replace HS := HS.drew
  refine start_ (n := 13) (S := fun w' => w'.cell? ⟨gs, 2, none⟩ = some (.slice Ar rcs.length cr) ∧ w'.cell? ⟨g1, 0, none⟩ = some (.int .i64 t.a) ∧ w'.cell? ⟨g1, 1, none⟩ = some (.int .i64 t.b) ∧ w'.cell? ⟨g1, 2, none⟩ = some (.int .i64 t.c)) (ds := [12]) #[false, false, false, false, false, false, false, false, false, false, false, false, false] (by kernel_rfl) rfl rfl ⟨(HS.mv 2).cell 2, (HS.mv 1).cell 0, (HS.mv 1).cell 1, (HS.mv 1).cell 2⟩ (fun hHeld => ?_)
  refine pure_ (i := 0) (N := some 16) (v := ?_) (a' := ?_) #[true, false, false, false, false, false, false, false, false, false, false, false, false] rfl rfl (by kernel_rfl) (fun _ _ _ h => h) (Or.inl ⟨by rfl, ?_⟩) ?_ ?_
  rotate_left
  · intro w'
    go_simp
    with_reducible rfl
  rotate_left
  · simp only [Act.put, List.setIfInBounds_toArray, List.set_cons_zero, List.set_cons_succ, i64_w, i32_w]
    rfl
  refine pure_ (i := 1) (N := some 17) (v := ?_) (a' := ?_) #[true, true, false, false, false, false, false, false, false, false, false, false, false] rfl rfl (by kernel_rfl) (fun _ _ _ h => h) (Or.inl ⟨by rfl, ?_⟩) ?_ ?_
  rotate_left
  · intro w'
    go_simp
    with_reducible rfl
  rotate_left
  · simp only [Act.put, List.setIfInBounds_toArray, List.set_cons_zero, List.set_cons_succ, i64_w, i32_w]
    rfl
  refine pure_ (i := 2) (N := some 18) (v := ?_) (a' := ?_) #[true, true, true, false, false, false, false, false, false, false, false, false, false] rfl rfl (by kernel_rfl) (fun _ _ _ h => h) (Or.inl ⟨by rfl, ?_⟩) ?_ ?_
  rotate_left
  · intro w'
    go_simp
    with_reducible rfl
  rotate_left
  · simp only [Act.put, List.setIfInBounds_toArray, List.set_cons_zero, List.set_cons_succ, i64_w, i32_w]
    rfl
  refine pure_ (i := 3) (N := some 19) (v := ?_) (a' := ?_) #[true, true, true, true, false, false, false, false, false, false, false, false, false] rfl rfl (by kernel_rfl) (fun _ _ _ h => h) (Or.inl ⟨by rfl, ?_⟩) ?_ ?_
  rotate_left
  · intro w'
    go_simp
    with_reducible rfl
  rotate_left
  · simp only [Act.put, List.setIfInBounds_toArray, List.set_cons_zero, List.set_cons_succ, i64_w, i32_w]
    rfl
  refine pure_ (i := 6) (N := some 22) (v := ?_) (a' := ?_) #[true, true, true, true, false, false, true, false, false, false, false, false, false] rfl rfl (by kernel_rfl) (fun _ _ _ h => h) (Or.inl ⟨by rfl, ?_⟩) ?_ ?_
  rotate_left
  · intro w'
    go_simp
    with_reducible rfl
  rotate_left
  · simp only [Act.put, List.setIfInBounds_toArray, List.set_cons_zero, List.set_cons_succ, i64_w, i32_w]
    rfl
  refine take_ (i := 4) (N := some 20) (v := ?_) (a' := ?_) #[true, true, true, true, true, false, true, false, false, false, false, false, false] rfl rfl (by kernel_rfl) (fun _ _ _ h => h) (Or.inl ⟨by rfl, ?_⟩) hHeld ?_ ?_
  rotate_left
  · rintro w' ⟨s0, s1, s2, s3⟩
    go_simp
    with_reducible rfl
  rotate_left
  · simp only [Act.put, List.setIfInBounds_toArray, List.set_cons_zero, List.set_cons_succ, i64_w, i32_w]
    rfl
  refine take_ (i := 5) (N := some 21) (v := ?_) (a' := ?_) #[true, true, true, true, true, true, true, false, false, false, false, false, false] rfl rfl (by kernel_rfl) (fun _ _ _ h => h) (Or.inl ⟨by rfl, ?_⟩) hHeld ?_ ?_
  rotate_left
  · rintro w' ⟨s0, s1, s2, s3⟩
    go_simp
    with_reducible rfl
  rotate_left
  · simp only [Act.put, List.setIfInBounds_toArray, List.set_cons_zero, List.set_cons_succ, i64_w, i32_w]
    rfl
  refine pure_ (i := 7) (N := some 23) (v := ?_) (a' := ?_) #[true, true, true, true, true, true, true, true, false, false, false, false, false] rfl rfl (by kernel_rfl) (fun _ _ _ h => h) (Or.inl ⟨by rfl, ?_⟩) ?_ ?_
  rotate_left
  · intro w'
    go_simp
    with_reducible rfl
  rotate_left
  · simp only [Act.put, List.setIfInBounds_toArray, List.set_cons_zero, List.set_cons_succ, i64_w, i32_w]
    rfl
  refine one_ (i := 8) (N := some 24) #[true, true, true, true, true, true, true, true, true, false, false, false, false] rfl rfl (by kernel_rfl) (by decide) (fun K hK => ?_)
  refine ev_lit_step kRc 109 (by rfl) (N := 24) rfl (xs := [(⟨t, ts⟩ : Rc)]) (inner := [.int .i64 t.a, .int .i64 t.b, .int .i64 t.c, .int .i64 ts]) HS ?hr ?hp (by simp) ?_
  case hr => first | (go_simp; done) | (go_simp; rfl)
  case hp => exact Rc_reps1 _
  intro v16 w17 HS_
  clear HS
  obtain ⟨gl18, cl19, hv_⟩ := St.row_form HS_ (by simp)
  have hv_ : v16 = .slice (some ⟨gl18, 0, none⟩) 1 cl19 := hv_
  subst hv_
  have HS : St w S w17 [HP.row kRc 109 (.slice (some ⟨gl18, 0, none⟩) 1 cl19) [(⟨t, ts⟩ : Rc)], mapK gf ekT evI (fnd (rcs ++ [(⟨t, ts⟩ : Rc)])), HP.obj g1 26 [.int .i64 t.a, .int .i64 t.b, .int .i64 t.c], HP.obj gs 98 [.pointer (some ⟨gst, 0, none⟩), .slice Al ps.length cl, .slice Ar rcs.length cr, .map (some gf), .slice Ao ov.length co, .map (some gg), .int .i64 high], HP.row kRc 109 (.slice Ar rcs.length cr) rcs] := HS_
  clear HS_
  refine hK.out _ _ ⟨(HS.mv 3).cell 2, (HS.mv 2).cell 0, (HS.mv 2).cell 1, (HS.mv 2).cell 2⟩ (fun hHeld => ?_)
  clear hK K
  refine norm_ (a' := ?_) ?_ ?_
  rotate_left
  · show Act.put _ (some 24) _ = _
    simp only [Act.put, List.setIfInBounds_toArray, List.set_cons_zero, List.set_cons_succ, i64_w, i32_w]
    rfl
  refine one_ (i := 9) (N := some 25) #[true, true, true, true, true, true, true, true, true, true, false, false, false] rfl rfl (by kernel_rfl) (by decide) (fun K hK => ?_)
  have HZ := (HS.mv 4)
  clear HS
  refine ev_rows_step kRc Rc_flat (by rfl) (.tmp 20) (.tmp 24) 70 109 _ 32 (by rfl) Try.underlying70 Rc_info rfl (by decide) (by decide) _ rcs [(⟨t, ts⟩ : Rc)] _ _ (by rfl) (by rfl) HZ (St.row_reads (HZ.mv 1)).2.2 (by simp only [List.length_cons, List.length_nil]; omega) ?_
  intro v20 w21 HS_
  clear HZ
  have HS_ := HS_.out 1
  obtain ⟨A22, c23, hv_, -, -⟩ := St.row_C HS_
  have hv_ : v20 = .slice A22 (rcs ++ [(⟨t, ts⟩ : Rc)]).length c23 := hv_
  subst hv_
  have HS : St w S w21 [HP.row kRc 109 (.slice A22 (rcs ++ [(⟨t, ts⟩ : Rc)]).length c23) (rcs ++ [(⟨t, ts⟩ : Rc)]), mapK gf ekT evI (fnd (rcs ++ [(⟨t, ts⟩ : Rc)])), HP.obj g1 26 [.int .i64 t.a, .int .i64 t.b, .int .i64 t.c], HP.obj gs 98 [.pointer (some ⟨gst, 0, none⟩), .slice Al ps.length cl, .slice Ar rcs.length cr, .map (some gf), .slice Ao ov.length co, .map (some gg), .int .i64 high]] := HS_
  clear HS_
  refine hK.out _ _ ⟨(HS.mv 3).cell 2, (HS.mv 2).cell 0, (HS.mv 2).cell 1, (HS.mv 2).cell 2⟩ (fun hHeld => ?_)
  clear hK K
  refine norm_ (a' := ?_) ?_ ?_
  rotate_left
  · show Act.put _ (some 25) _ = _
    simp only [Act.put, List.setIfInBounds_toArray, List.set_cons_zero, List.set_cons_succ, i64_w, i32_w]
    rfl
  refine pure_ (i := 10) (N := some 26) (v := ?_) (a' := ?_) #[true, true, true, true, true, true, true, true, true, true, true, false, false] rfl rfl (by kernel_rfl) (fun _ _ _ h => h) (Or.inl ⟨by rfl, ?_⟩) ?_ ?_
  rotate_left
  · intro w'
    go_simp
    with_reducible rfl
  rotate_left
  · simp only [Act.put, List.setIfInBounds_toArray, List.set_cons_zero, List.set_cons_succ, i64_w, i32_w]
    rfl
  refine pure_ (i := 11) (N := some 27) (v := ?_) (a' := ?_) #[true, true, true, true, true, true, true, true, true, true, true, true, false] rfl rfl (by kernel_rfl) (fun _ _ _ h => h) (Or.inl ⟨by rfl, ?_⟩) ?_ ?_
  rotate_left
  · intro w'
    go_simp
    with_reducible rfl
  rotate_left
  · simp only [Act.put, List.setIfInBounds_toArray, List.set_cons_zero, List.set_cons_succ, i64_w, i32_w]
    rfl
  refine last_ (i := 12) (N := none) #[true, true, true, true, true, true, true, true, true, true, true, true, true] rfl rfl (by kernel_rfl) (by decide) (fun K hK => ?_)
  refine ev_store_step2 (by rfl) rfl 70 (.tmp 27) (.tmp 25) rfl [.pointer (some ⟨gst, 0, none⟩), .slice Al ps.length cl, .slice A22 (rcs ++ [(⟨t, ts⟩ : Rc)]).length c23, .map (some gf), .slice Ao ov.length co, .map (some gg), .int .i64 high] (HS.mv 3) rfl rfl (seg := [.slice A22 (rcs ++ [(⟨t, ts⟩ : Rc)]).length c23]) rfl ?ht rfl ?hf ?he ?_
  case ht => exact szShC70
  case he => kernel_rfl
  case hf => first | (simp; done) | (simp [splice]; done)
  intro w24 HS_
  clear HS
  have HS : St w S w24 [HP.obj gs 98 [.pointer (some ⟨gst, 0, none⟩), .slice Al ps.length cl, .slice A22 (rcs ++ [(⟨t, ts⟩ : Rc)]).length c23, .map (some gf), .slice Ao ov.length co, .map (some gg), .int .i64 high], HP.row kRc 109 (.slice A22 (rcs ++ [(⟨t, ts⟩ : Rc)]).length c23) (rcs ++ [(⟨t, ts⟩ : Rc)]), mapK gf ekT evI (fnd (rcs ++ [(⟨t, ts⟩ : Rc)])), HP.obj g1 26 [.int .i64 t.a, .int .i64 t.b, .int .i64 t.c]] := HS_
  clear HS_
  refine hK.out _ _ ?_
  clear hK K
  refine done_ (by kernel_rfl) ?_
  clear hHeld
  go_wp2_with fail
  go_end0
  exact ⟨rfl, St.ex_in A22 (St.ex_in c23 (St.unall (L := [_, _, _]) (F := []) (HS.out 3)))⟩
set_option maxHeartbeats 4000000 in
set_option maxRecDepth 20000 in
theorem end_fun {gs gst gf gg : Nat} {Al Ar Ao : Option Addr} {cl cr co : Nat} {ps : List Lp} {rcs : List Rc} {ov : List Td} {rows : List Rw} {high : Int} {X : HP} (t : Td) (hno : t ∉ ov) (hl : (ov.length + 1) * 24 ≤ 140737488355328) :
    FunV Try.prog 51 #[.pointer (some ⟨gs, 0, none⟩), .agg #[.int .i64 t.a, .int .i64 t.b, .int .i64 t.c]] (fun _ => True) [HP.obj gs 98 [.pointer (some ⟨gst, 0, none⟩), .slice Al ps.length cl, .slice Ar rcs.length cr, .map (some gf), .slice Ao ov.length co, .map (some gg), .int .i64 high], HP.row kTd 26 (.slice Ao ov.length co) ov, mapK gg ekT evB (gon ov)] (.tuple #[]) [HP.ex fun Ao2 : Option Addr => HP.ex fun co2 : Nat => Sl.all [HP.obj gs 98 [.pointer (some ⟨gst, 0, none⟩), .slice Al ps.length cl, .slice Ar rcs.length cr, .map (some gf), .slice Ao2 (ov ++ [t]).length co2, .map (some gg), .int .i64 high], HP.row kTd 26 (.slice Ao2 (ov ++ [t]).length co2) (ov ++ [t]), mapK gg ekT evB (gon (ov ++ [t]))]] := by
  intro w S hS hR
  have HS := St.start hS
  clear hS hR
  have HNO := Aside0.mk hno
  clear hno
  have hu98 := Try.underlying98
  have hu26 := Try.underlying26
  go_enter Try.func51, Try.ntmps51
  go_wp2_with (first
    | ((with_reducible refine gate_dst (N := 3) rfl ?_); refine ev_box ?hg (N := 3) ?hd (cs := [.int .i64 t.a, .int .i64 t.b, .int .i64 t.c]) (t := 26) HS ?hr ?_; (case hd => rfl); (case hg => rfl); (case hr => first | (go_simp; done) | (go_simp; rfl)); intro g1 w2 HS_ hg_; clear hg_; clear HS; have HS : St w S w2 [HP.obj g1 26 [.int .i64 t.a, .int .i64 t.b, .int .i64 t.c], HP.obj gs 98 [.pointer (some ⟨gst, 0, none⟩), .slice Al ps.length cl, .slice Ar rcs.length cr, .map (some gf), .slice Ao ov.length co, .map (some gg), .int .i64 high], HP.row kTd 26 (.slice Ao ov.length co) ov, mapK gg ekT evB (gon ov)] := HS_; clear HS_))
  replace HS := HS.drew
  refine start_ (n := 6) (S := fun w' => w'.cell? ⟨gs, 5, none⟩ = some (.map (some gg)) ∧ w'.cell? ⟨g1, 0, none⟩ = some (.int .i64 t.a) ∧ w'.cell? ⟨g1, 1, none⟩ = some (.int .i64 t.b) ∧ w'.cell? ⟨g1, 2, none⟩ = some (.int .i64 t.c)) (ds := []) #[false, false, false, false, false, false] (by kernel_rfl) rfl rfl ⟨(HS.mv 1).cell 5, HS.cell 0, HS.cell 1, HS.cell 2⟩ (fun hHeld => ?_)
  refine pure_ (i := 0) (N := some 4) (v := ?_) (a' := ?_) #[true, false, false, false, false, false] rfl rfl (by kernel_rfl) (fun _ _ _ h => h) (Or.inl ⟨by rfl, ?_⟩) ?_ ?_
  rotate_left
  · intro w'
    go_simp
    with_reducible rfl
  rotate_left
  · simp only [Act.put, List.setIfInBounds_toArray, List.set_cons_zero, List.set_cons_succ, i64_w, i32_w]
    rfl
  refine pure_ (i := 1) (N := some 5) (v := ?_) (a' := ?_) #[true, true, false, false, false, false] rfl rfl (by kernel_rfl) (fun _ _ _ h => h) (Or.inl ⟨by rfl, ?_⟩) ?_ ?_
  rotate_left
  · intro w'
    go_simp
    with_reducible rfl
  rotate_left
  · simp only [Act.put, List.setIfInBounds_toArray, List.set_cons_zero, List.set_cons_succ, i64_w, i32_w]
    rfl
  refine pure_ (i := 2) (N := some 6) (v := ?_) (a' := ?_) #[true, true, true, false, false, false] rfl rfl (by kernel_rfl) (fun _ _ _ h => h) (Or.inl ⟨by rfl, ?_⟩) ?_ ?_
  rotate_left
  · intro w'
    go_simp
    with_reducible rfl
  rotate_left
  · simp only [Act.put, List.setIfInBounds_toArray, List.set_cons_zero, List.set_cons_succ, i64_w, i32_w]
    rfl
  refine take_ (i := 3) (N := some 7) (v := ?_) (a' := ?_) #[true, true, true, true, false, false] rfl rfl (by kernel_rfl) (fun _ _ _ h => h) (Or.inl ⟨by rfl, ?_⟩) hHeld ?_ ?_
  rotate_left
  · rintro w' ⟨s0, s1, s2, s3⟩
    go_simp
    with_reducible rfl
  rotate_left
  · simp only [Act.put, List.setIfInBounds_toArray, List.set_cons_zero, List.set_cons_succ, i64_w, i32_w]
    rfl
  refine take_ (i := 4) (N := some 8) (v := ?_) (a' := ?_) #[true, true, true, true, true, false] rfl rfl (by kernel_rfl) (fun _ _ _ h => h) (Or.inl ⟨by rfl, ?_⟩) hHeld ?_ ?_
  rotate_left
  · rintro w' ⟨s0, s1, s2, s3⟩
    go_simp
    with_reducible rfl
  rotate_left
  · simp only [Act.put, List.setIfInBounds_toArray, List.set_cons_zero, List.set_cons_succ, i64_w, i32_w]
    rfl
  refine one_ (i := 5) (N := none) #[true, true, true, true, true, true] rfl rfl (by kernel_rfl) (by decide) (fun K hK => ?_)
  refine ev_mapsetK_step (by rfl) rfl 96 (.tmp 7) (.tmp 8) (.const (.bool true)) (.inl rfl) tid_kk (gon (ov ++ [t])) (HS.mv 3) (by rfl) t (by rfl) true (by rfl) Try.underlying96 (gon_put HNO.out) ?_
  intro w4 HS_
  clear HS
  have HS : St w S w4 [mapK gg ekT evB (gon (ov ++ [t])), HP.obj g1 26 [.int .i64 t.a, .int .i64 t.b, .int .i64 t.c], HP.obj gs 98 [.pointer (some ⟨gst, 0, none⟩), .slice Al ps.length cl, .slice Ar rcs.length cr, .map (some gf), .slice Ao ov.length co, .map (some gg), .int .i64 high], HP.row kTd 26 (.slice Ao ov.length co) ov] := HS_
  clear HS_
  refine hK.out _ _ ⟨(HS.mv 2).cell 5, (HS.mv 1).cell 0, (HS.mv 1).cell 1, (HS.mv 1).cell 2⟩ (fun hHeld => ?_)
  clear hK K
  refine done_ (by kernel_rfl) ?_
  clear hHeld
  go_wp2_with fail
  replace HS := HS.drew
  refine start_ (n := 11) (S := fun w' => w'.cell? ⟨gs, 4, none⟩ = some (.slice Ao ov.length co) ∧ w'.cell? ⟨g1, 0, none⟩ = some (.int .i64 t.a) ∧ w'.cell? ⟨g1, 1, none⟩ = some (.int .i64 t.b) ∧ w'.cell? ⟨g1, 2, none⟩ = some (.int .i64 t.c)) (ds := [10]) #[false, false, false, false, false, false, false, false, false, false, false] (by kernel_rfl) rfl rfl ⟨(HS.mv 2).cell 4, (HS.mv 1).cell 0, (HS.mv 1).cell 1, (HS.mv 1).cell 2⟩ (fun hHeld => ?_)
  refine pure_ (i := 0) (N := some 9) (v := ?_) (a' := ?_) #[true, false, false, false, false, false, false, false, false, false, false] rfl rfl (by kernel_rfl) (fun _ _ _ h => h) (Or.inl ⟨by rfl, ?_⟩) ?_ ?_
  rotate_left
  · intro w'
    go_simp
    with_reducible rfl
  rotate_left
  · simp only [Act.put, List.setIfInBounds_toArray, List.set_cons_zero, List.set_cons_succ, i64_w, i32_w]
    rfl
  refine pure_ (i := 1) (N := some 10) (v := ?_) (a' := ?_) #[true, true, false, false, false, false, false, false, false, false, false] rfl rfl (by kernel_rfl) (fun _ _ _ h => h) (Or.inl ⟨by rfl, ?_⟩) ?_ ?_
  rotate_left
  · intro w'
    go_simp
    with_reducible rfl
  rotate_left
  · simp only [Act.put, List.setIfInBounds_toArray, List.set_cons_zero, List.set_cons_succ, i64_w, i32_w]
    rfl
  refine pure_ (i := 2) (N := some 11) (v := ?_) (a' := ?_) #[true, true, true, false, false, false, false, false, false, false, false] rfl rfl (by kernel_rfl) (fun _ _ _ h => h) (Or.inl ⟨by rfl, ?_⟩) ?_ ?_
  rotate_left
  · intro w'
    go_simp
    with_reducible rfl
  rotate_left
  · simp only [Act.put, List.setIfInBounds_toArray, List.set_cons_zero, List.set_cons_succ, i64_w, i32_w]
    rfl
  refine pure_ (i := 3) (N := some 12) (v := ?_) (a' := ?_) #[true, true, true, true, false, false, false, false, false, false, false] rfl rfl (by kernel_rfl) (fun _ _ _ h => h) (Or.inl ⟨by rfl, ?_⟩) ?_ ?_
  rotate_left
  · intro w'
    go_simp
    with_reducible rfl
  rotate_left
  · simp only [Act.put, List.setIfInBounds_toArray, List.set_cons_zero, List.set_cons_succ, i64_w, i32_w]
    rfl
  refine take_ (i := 4) (N := some 13) (v := ?_) (a' := ?_) #[true, true, true, true, true, false, false, false, false, false, false] rfl rfl (by kernel_rfl) (fun _ _ _ h => h) (Or.inl ⟨by rfl, ?_⟩) hHeld ?_ ?_
  rotate_left
  · rintro w' ⟨s0, s1, s2, s3⟩
    go_simp
    with_reducible rfl
  rotate_left
  · simp only [Act.put, List.setIfInBounds_toArray, List.set_cons_zero, List.set_cons_succ, i64_w, i32_w]
    rfl
  refine take_ (i := 5) (N := some 14) (v := ?_) (a' := ?_) #[true, true, true, true, true, true, false, false, false, false, false] rfl rfl (by kernel_rfl) (fun _ _ _ h => h) (Or.inl ⟨by rfl, ?_⟩) hHeld ?_ ?_
  rotate_left
  · rintro w' ⟨s0, s1, s2, s3⟩
    go_simp
    with_reducible rfl
  rotate_left
  · simp only [Act.put, List.setIfInBounds_toArray, List.set_cons_zero, List.set_cons_succ, i64_w, i32_w]
    rfl
  refine one_ (i := 6) (N := some 15) #[true, true, true, true, true, true, true, false, false, false, false] rfl rfl (by kernel_rfl) (by decide) (fun K hK => ?_)
  refine ev_lit_step kTd 26 (by rfl) (N := 15) rfl (xs := [t]) (inner := [.int .i64 t.a, .int .i64 t.b, .int .i64 t.c]) HS ?hr ?hp (by simp) ?_
  case hr => first | (go_simp; done) | (go_simp; rfl)
  case hp => exact Td_reps1 _
  intro v16 w17 HS_
  clear HS
  obtain ⟨gl18, cl19, hv_⟩ := St.row_form HS_ (by simp)
  have hv_ : v16 = .slice (some ⟨gl18, 0, none⟩) 1 cl19 := hv_
  subst hv_
  have HS : St w S w17 [HP.row kTd 26 (.slice (some ⟨gl18, 0, none⟩) 1 cl19) [t], mapK gg ekT evB (gon (ov ++ [t])), HP.obj g1 26 [.int .i64 t.a, .int .i64 t.b, .int .i64 t.c], HP.obj gs 98 [.pointer (some ⟨gst, 0, none⟩), .slice Al ps.length cl, .slice Ar rcs.length cr, .map (some gf), .slice Ao ov.length co, .map (some gg), .int .i64 high], HP.row kTd 26 (.slice Ao ov.length co) ov] := HS_
  clear HS_
  refine hK.out _ _ ⟨(HS.mv 3).cell 4, (HS.mv 2).cell 0, (HS.mv 2).cell 1, (HS.mv 2).cell 2⟩ (fun hHeld => ?_)
  clear hK K
  refine norm_ (a' := ?_) ?_ ?_
  rotate_left
  · show Act.put _ (some 15) _ = _
    simp only [Act.put, List.setIfInBounds_toArray, List.set_cons_zero, List.set_cons_succ, i64_w, i32_w]
    rfl
  refine one_ (i := 7) (N := some 16) #[true, true, true, true, true, true, true, true, false, false, false] rfl rfl (by kernel_rfl) (by decide) (fun K hK => ?_)
  have HZ := (HS.mv 4)
  clear HS
  refine ev_rows_step kTd Td_flat (by rfl) (.tmp 13) (.tmp 15) 71 26 _ 24 (by rfl) Try.underlying71 Td_info rfl (by decide) (by decide) _ ov [t] _ _ (by rfl) (by rfl) HZ (St.row_reads (HZ.mv 1)).2.2 (by simp only [List.length_cons, List.length_nil]; omega) ?_
  intro v20 w21 HS_
  clear HZ
  have HS_ := HS_.out 1
  obtain ⟨A22, c23, hv_, -, -⟩ := St.row_C HS_
  have hv_ : v20 = .slice A22 (ov ++ [t]).length c23 := hv_
  subst hv_
  have HS : St w S w21 [HP.row kTd 26 (.slice A22 (ov ++ [t]).length c23) (ov ++ [t]), mapK gg ekT evB (gon (ov ++ [t])), HP.obj g1 26 [.int .i64 t.a, .int .i64 t.b, .int .i64 t.c], HP.obj gs 98 [.pointer (some ⟨gst, 0, none⟩), .slice Al ps.length cl, .slice Ar rcs.length cr, .map (some gf), .slice Ao ov.length co, .map (some gg), .int .i64 high]] := HS_
  clear HS_
  refine hK.out _ _ ⟨(HS.mv 3).cell 4, (HS.mv 2).cell 0, (HS.mv 2).cell 1, (HS.mv 2).cell 2⟩ (fun hHeld => ?_)
  clear hK K
  refine norm_ (a' := ?_) ?_ ?_
  rotate_left
  · show Act.put _ (some 16) _ = _
    simp only [Act.put, List.setIfInBounds_toArray, List.set_cons_zero, List.set_cons_succ, i64_w, i32_w]
    rfl
  refine pure_ (i := 8) (N := some 17) (v := ?_) (a' := ?_) #[true, true, true, true, true, true, true, true, true, false, false] rfl rfl (by kernel_rfl) (fun _ _ _ h => h) (Or.inl ⟨by rfl, ?_⟩) ?_ ?_
  rotate_left
  · intro w'
    go_simp
    with_reducible rfl
  rotate_left
  · simp only [Act.put, List.setIfInBounds_toArray, List.set_cons_zero, List.set_cons_succ, i64_w, i32_w]
    rfl
  refine pure_ (i := 9) (N := some 18) (v := ?_) (a' := ?_) #[true, true, true, true, true, true, true, true, true, true, false] rfl rfl (by kernel_rfl) (fun _ _ _ h => h) (Or.inl ⟨by rfl, ?_⟩) ?_ ?_
  rotate_left
  · intro w'
    go_simp
    with_reducible rfl
  rotate_left
  · simp only [Act.put, List.setIfInBounds_toArray, List.set_cons_zero, List.set_cons_succ, i64_w, i32_w]
    rfl
  refine last_ (i := 10) (N := none) #[true, true, true, true, true, true, true, true, true, true, true] rfl rfl (by kernel_rfl) (by decide) (fun K hK => ?_)
  refine ev_store_step2 (by rfl) rfl 71 (.tmp 18) (.tmp 16) rfl [.pointer (some ⟨gst, 0, none⟩), .slice Al ps.length cl, .slice Ar rcs.length cr, .map (some gf), .slice A22 (ov ++ [t]).length c23, .map (some gg), .int .i64 high] (HS.mv 3) rfl rfl (seg := [.slice A22 (ov ++ [t]).length c23]) rfl ?ht rfl ?hf ?he ?_
  case ht => exact szShC71
  case he => kernel_rfl
  case hf => first | (simp; done) | (simp [splice]; done)
  intro w24 HS_
  clear HS
  have HS : St w S w24 [HP.obj gs 98 [.pointer (some ⟨gst, 0, none⟩), .slice Al ps.length cl, .slice Ar rcs.length cr, .map (some gf), .slice A22 (ov ++ [t]).length c23, .map (some gg), .int .i64 high], HP.row kTd 26 (.slice A22 (ov ++ [t]).length c23) (ov ++ [t]), mapK gg ekT evB (gon (ov ++ [t])), HP.obj g1 26 [.int .i64 t.a, .int .i64 t.b, .int .i64 t.c]] := HS_
  clear HS_
  refine hK.out _ _ ?_
  clear hK K
  refine done_ (by kernel_rfl) ?_
  clear hHeld
  go_wp2_with fail
  go_end0
  exact ⟨rfl, St.ex_in A22 (St.ex_in c23 (St.unall (L := [_, _, _]) (F := []) (HS.out 3)))⟩
set_option maxHeartbeats 4000000 in
set_option maxRecDepth 20000 in
theorem record_fun {gs gst gf gg : Nat} {Al Ar Ao : Option Addr} {cl cr co : Nat} {ps : List Lp} {rcs : List Rc} {ov : List Td} {rows : List Rw} {high : Int} {X : HP} (t : Td) (hn : (rcs.map (·.t)).Nodup) :
    FunV Try.prog 24 #[.pointer (some ⟨gs, 0, none⟩), .agg #[.int .i64 t.a, .int .i64 t.b, .int .i64 t.c]] (fun _ => True) [HP.obj gs 98 [.pointer (some ⟨gst, 0, none⟩), .slice Al ps.length cl, .slice Ar rcs.length cr, .map (some gf), .slice Ao ov.length co, .map (some gg), .int .i64 high], HP.row kRc 109 (.slice Ar rcs.length cr) rcs, mapK gf ekT evI (fnd rcs)] (recT (recOf rcs t)) [HP.obj gs 98 [.pointer (some ⟨gst, 0, none⟩), .slice Al ps.length cl, .slice Ar rcs.length cr, .map (some gf), .slice Ao ov.length co, .map (some gg), .int .i64 high], HP.row kRc 109 (.slice Ar rcs.length cr) rcs, mapK gf ekT evI (fnd rcs)] := by
  intro w S hS hR
  have HS := St.start hS
  clear hS hR
  have hu98 := Try.underlying98
  have hu26 := Try.underlying26
  have hu109 := Try.underlying109
  have hus := Try.underlying70
  cases hm : mget (fnd rcs) t with
  | none =>
    rw [fnd_none.1 hm]
    have HM := Aside0.mk (show oval evI (.int .i64 0) (mget (fnd rcs) t) = .int .i64 0 ∧ (mget (fnd rcs) t).isSome = false from by rw [hm]; exact ⟨rfl, rfl⟩)
    clear hm
    go_enter Try.func24, Try.ntmps24
    go_wp2_with (first
      | ((with_reducible refine gate_dst (N := 3) rfl ?_); refine ev_box ?hg (N := 3) ?hd (cs := [.int .i64 t.a, .int .i64 t.b, .int .i64 t.c]) (t := 26) HS ?hr ?_; (case hd => rfl); (case hg => rfl); (case hr => first | (go_simp; done) | (go_simp; rfl)); intro g1 w2 HS_ hg_; clear hg_; clear HS; have HS : St w S w2 [HP.obj g1 26 [.int .i64 t.a, .int .i64 t.b, .int .i64 t.c], HP.obj gs 98 [.pointer (some ⟨gst, 0, none⟩), .slice Al ps.length cl, .slice Ar rcs.length cr, .map (some gf), .slice Ao ov.length co, .map (some gg), .int .i64 high], HP.row kRc 109 (.slice Ar rcs.length cr) rcs, mapK gf ekT evI (fnd rcs)] := HS_; clear HS_))
    replace HS := HS.drew
    refine start_ (n := 11) (S := fun w' => w'.cell? ⟨gs, 3, none⟩ = some (.map (some gf)) ∧ w'.cell? ⟨g1, 0, none⟩ = some (.int .i64 t.a) ∧ w'.cell? ⟨g1, 1, none⟩ = some (.int .i64 t.b) ∧ w'.cell? ⟨g1, 2, none⟩ = some (.int .i64 t.c) ∧ (Instr.lookup 95 (.map (some gf)) (.agg #[.int .i64 t.a, .int .i64 t.b, .int .i64 t.c]) true).run Try.prog w' = .ok (.tuple #[.int .i64 0, .bool false]) w') (ds := []) #[false, false, false, false, false, false, false, false, false, false, false] (by kernel_rfl) rfl rfl ⟨(HS.mv 1).cell 3, HS.cell 0, HS.cell 1, HS.cell 2, (by have h_ := (St.mapK_look (P := Try.prog) (t := 95) (kt := 26) (et := 3) (HS.mv 3) tid_kk Try.underlying95 t (z := .int .i64 0) (fun w => by kernel_rfl)).1; rw [HM.out.1, HM.out.2] at h_; exact h_)⟩ (fun hHeld => ?_)
    refine pure_ (i := 0) (N := some 11) (v := ?_) (a' := ?_) #[true, false, false, false, false, false, false, false, false, false, false] rfl rfl (by kernel_rfl) (fun _ _ _ h => h) (Or.inl ⟨by rfl, ?_⟩) ?_ ?_
    rotate_left
    · intro w'
      go_simp
      with_reducible rfl
    rotate_left
    · simp only [Act.put, List.setIfInBounds_toArray, List.set_cons_zero, List.set_cons_succ, i64_w, i32_w]
      rfl
    refine pure_ (i := 1) (N := some 12) (v := ?_) (a' := ?_) #[true, true, false, false, false, false, false, false, false, false, false] rfl rfl (by kernel_rfl) (fun _ _ _ h => h) (Or.inl ⟨by rfl, ?_⟩) ?_ ?_
    rotate_left
    · intro w'
      go_simp
      with_reducible rfl
    rotate_left
    · simp only [Act.put, List.setIfInBounds_toArray, List.set_cons_zero, List.set_cons_succ, i64_w, i32_w]
      rfl
    refine pure_ (i := 2) (N := some 13) (v := ?_) (a' := ?_) #[true, true, true, false, false, false, false, false, false, false, false] rfl rfl (by kernel_rfl) (fun _ _ _ h => h) (Or.inl ⟨by rfl, ?_⟩) ?_ ?_
    rotate_left
    · intro w'
      go_simp
      with_reducible rfl
    rotate_left
    · simp only [Act.put, List.setIfInBounds_toArray, List.set_cons_zero, List.set_cons_succ, i64_w, i32_w]
      rfl
    refine take_ (i := 3) (N := some 14) (v := ?_) (a' := ?_) #[true, true, true, true, false, false, false, false, false, false, false] rfl rfl (by kernel_rfl) (fun _ _ _ h => h) (Or.inl ⟨by rfl, ?_⟩) hHeld ?_ ?_
    rotate_left
    · rintro w' ⟨s0, s1, s2, s3, s4⟩
      go_simp
      with_reducible rfl
    rotate_left
    · simp only [Act.put, List.setIfInBounds_toArray, List.set_cons_zero, List.set_cons_succ, i64_w, i32_w]
      rfl
    refine take_ (i := 4) (N := some 15) (v := ?_) (a' := ?_) #[true, true, true, true, true, false, false, false, false, false, false] rfl rfl (by kernel_rfl) (fun _ _ _ h => h) (Or.inl ⟨by rfl, ?_⟩) hHeld ?_ ?_
    rotate_left
    · rintro w' ⟨s0, s1, s2, s3, s4⟩
      go_simp
      with_reducible rfl
    rotate_left
    · simp only [Act.put, List.setIfInBounds_toArray, List.set_cons_zero, List.set_cons_succ, i64_w, i32_w]
      rfl
    refine take_ (i := 5) (N := some 16) (v := ?_) (a' := ?_) #[true, true, true, true, true, true, false, false, false, false, false] rfl rfl (by kernel_rfl) (fun _ _ _ h => h) (Or.inl ⟨by rfl, ?_⟩) hHeld ?_ ?_
    rotate_left
    · rintro w' ⟨s0, s1, s2, s3, s4⟩
      go_simp
      with_reducible rfl
    rotate_left
    · simp only [Act.put, List.setIfInBounds_toArray, List.set_cons_zero, List.set_cons_succ, i64_w, i32_w]
      rfl
    refine pure_ (i := 6) (N := some 10) (v := ?_) (a' := ?_) #[true, true, true, true, true, true, true, false, false, false, false] rfl rfl (by kernel_rfl) (fun _ _ _ h => h) (Or.inl ⟨by rfl, ?_⟩) ?_ ?_
    rotate_left
    · intro w'
      go_simp
      with_reducible rfl
    rotate_left
    · simp only [Act.put, List.setIfInBounds_toArray, List.set_cons_zero, List.set_cons_succ, i64_w, i32_w]
      rfl
    refine pure_ (i := 7) (N := some 17) (v := ?_) (a' := ?_) #[true, true, true, true, true, true, true, true, false, false, false] rfl rfl (by kernel_rfl) (fun _ _ _ h => h) (Or.inl ⟨by rfl, ?_⟩) ?_ ?_
    rotate_left
    · intro w'
      go_simp
      with_reducible rfl
    rotate_left
    · simp only [Act.put, List.setIfInBounds_toArray, List.set_cons_zero, List.set_cons_succ, i64_w, i32_w]
      rfl
    refine pure_ (i := 8) (N := some 18) (v := ?_) (a' := ?_) #[true, true, true, true, true, true, true, true, true, false, false] rfl rfl (by kernel_rfl) (fun _ _ _ h => h) (Or.inl ⟨by rfl, ?_⟩) ?_ ?_
    rotate_left
    · intro w'
      go_simp
      with_reducible rfl
    rotate_left
    · simp only [Act.put, List.setIfInBounds_toArray, List.set_cons_zero, List.set_cons_succ, i64_w, i32_w]
      rfl
    refine pure_ (i := 9) (N := some 6) (v := ?_) (a' := ?_) #[true, true, true, true, true, true, true, true, true, true, false] rfl rfl (by kernel_rfl) (fun _ _ _ h => h) (Or.inl ⟨by rfl, ?_⟩) ?_ ?_
    rotate_left
    · intro w'
      go_simp
      with_reducible rfl
    rotate_left
    · simp only [Act.put, List.setIfInBounds_toArray, List.set_cons_zero, List.set_cons_succ, i64_w, i32_w]
      rfl
    refine pure_ (i := 10) (N := some 7) (v := ?_) (a' := ?_) #[true, true, true, true, true, true, true, true, true, true, true] rfl rfl (by kernel_rfl) (fun _ _ _ h => h) (Or.inl ⟨by rfl, ?_⟩) ?_ ?_
    rotate_left
    · intro w'
      go_simp
      with_reducible rfl
    rotate_left
    · simp only [Act.put, List.setIfInBounds_toArray, List.set_cons_zero, List.set_cons_succ, i64_w, i32_w]
      rfl
    refine done_ (by kernel_rfl) ?_
    clear hHeld
    go_wp2_with fail
    go_ret2
    exact ⟨rfl, (HS.out 0)⟩
  | some i =>
    obtain ⟨k, r, rfl, hk, hro⟩ := fnd_some hm hn
    rw [hro]
    have HM := Aside0.mk (show oval evI (.int .i64 0) (mget (fnd rcs) t) = .int .i64 (k : Int) ∧ (mget (fnd rcs) t).isSome = true from by rw [hm]; exact ⟨rfl, rfl⟩)
    have hlt : k < rcs.length := (List.getElem?_eq_some_iff.1 hk).1
    have hltI : (k : Int) < (rcs.length : Int) := by omega
    have hk0 : (0 : Int) ≤ (k : Int) := by omega
    obtain ⟨gr, c_, ev⟩ := St.row_form (HS.mv 1) (by omega)
    simp only [Value.slice.injEq] at ev
    obtain ⟨rfl, -, rfl⟩ := ev
    have HC := Aside0.mk (fun (w' : World) (F : List HP) (h : St w S w' (HP.row kRc 109 (.slice (some ⟨gr, 0, none⟩) rcs.length cr) rcs :: F)) => Rc_row h k r hk)
    clear hm hk hro
    go_enter Try.func24, Try.ntmps24
    go_wp2_with (first
      | ((with_reducible refine gate_dst (N := 3) rfl ?_); refine ev_box ?hg (N := 3) ?hd (cs := [.int .i64 t.a, .int .i64 t.b, .int .i64 t.c]) (t := 26) HS ?hr ?_; (case hd => rfl); (case hg => rfl); (case hr => first | (go_simp; done) | (go_simp; rfl)); intro g1 w2 HS_ hg_; clear hg_; clear HS; have HS : St w S w2 [HP.obj g1 26 [.int .i64 t.a, .int .i64 t.b, .int .i64 t.c], HP.obj gs 98 [.pointer (some ⟨gst, 0, none⟩), .slice Al ps.length cl, .slice (some ⟨gr, 0, none⟩) rcs.length cr, .map (some gf), .slice Ao ov.length co, .map (some gg), .int .i64 high], HP.row kRc 109 (.slice (some ⟨gr, 0, none⟩) rcs.length cr) rcs, mapK gf ekT evI (fnd rcs)] := HS_; clear HS_))
    replace HS := HS.drew
    refine start_ (n := 11) (S := fun w' => w'.cell? ⟨gs, 3, none⟩ = some (.map (some gf)) ∧ w'.cell? ⟨g1, 0, none⟩ = some (.int .i64 t.a) ∧ w'.cell? ⟨g1, 1, none⟩ = some (.int .i64 t.b) ∧ w'.cell? ⟨g1, 2, none⟩ = some (.int .i64 t.c) ∧ (Instr.lookup 95 (.map (some gf)) (.agg #[.int .i64 t.a, .int .i64 t.b, .int .i64 t.c]) true).run Try.prog w' = .ok (.tuple #[.int .i64 (k : Int), .bool true]) w') (ds := []) #[false, false, false, false, false, false, false, false, false, false, false] (by kernel_rfl) rfl rfl ⟨(HS.mv 1).cell 3, HS.cell 0, HS.cell 1, HS.cell 2, (by have h_ := (St.mapK_look (P := Try.prog) (t := 95) (kt := 26) (et := 3) (HS.mv 3) tid_kk Try.underlying95 t (z := .int .i64 0) (fun w => by kernel_rfl)).1; rw [HM.out.1, HM.out.2] at h_; exact h_)⟩ (fun hHeld => ?_)
    refine pure_ (i := 0) (N := some 11) (v := ?_) (a' := ?_) #[true, false, false, false, false, false, false, false, false, false, false] rfl rfl (by kernel_rfl) (fun _ _ _ h => h) (Or.inl ⟨by rfl, ?_⟩) ?_ ?_
    rotate_left
    · intro w'
      go_simp
      with_reducible rfl
    rotate_left
    · simp only [Act.put, List.setIfInBounds_toArray, List.set_cons_zero, List.set_cons_succ, i64_w, i32_w]
      rfl
    refine pure_ (i := 1) (N := some 12) (v := ?_) (a' := ?_) #[true, true, false, false, false, false, false, false, false, false, false] rfl rfl (by kernel_rfl) (fun _ _ _ h => h) (Or.inl ⟨by rfl, ?_⟩) ?_ ?_
    rotate_left
    · intro w'
      go_simp
      with_reducible rfl
    rotate_left
    · simp only [Act.put, List.setIfInBounds_toArray, List.set_cons_zero, List.set_cons_succ, i64_w, i32_w]
      rfl
    refine pure_ (i := 2) (N := some 13) (v := ?_) (a' := ?_) #[true, true, true, false, false, false, false, false, false, false, false] rfl rfl (by kernel_rfl) (fun _ _ _ h => h) (Or.inl ⟨by rfl, ?_⟩) ?_ ?_
    rotate_left
    · intro w'
      go_simp
      with_reducible rfl
    rotate_left
    · simp only [Act.put, List.setIfInBounds_toArray, List.set_cons_zero, List.set_cons_succ, i64_w, i32_w]
      rfl
    refine take_ (i := 3) (N := some 14) (v := ?_) (a' := ?_) #[true, true, true, true, false, false, false, false, false, false, false] rfl rfl (by kernel_rfl) (fun _ _ _ h => h) (Or.inl ⟨by rfl, ?_⟩) hHeld ?_ ?_
    rotate_left
    · rintro w' ⟨s0, s1, s2, s3, s4⟩
      go_simp
      with_reducible rfl
    rotate_left
    · simp only [Act.put, List.setIfInBounds_toArray, List.set_cons_zero, List.set_cons_succ, i64_w, i32_w]
      rfl
    refine take_ (i := 4) (N := some 15) (v := ?_) (a' := ?_) #[true, true, true, true, true, false, false, false, false, false, false] rfl rfl (by kernel_rfl) (fun _ _ _ h => h) (Or.inl ⟨by rfl, ?_⟩) hHeld ?_ ?_
    rotate_left
    · rintro w' ⟨s0, s1, s2, s3, s4⟩
      go_simp
      with_reducible rfl
    rotate_left
    · simp only [Act.put, List.setIfInBounds_toArray, List.set_cons_zero, List.set_cons_succ, i64_w, i32_w]
      rfl
    refine take_ (i := 5) (N := some 16) (v := ?_) (a' := ?_) #[true, true, true, true, true, true, false, false, false, false, false] rfl rfl (by kernel_rfl) (fun _ _ _ h => h) (Or.inl ⟨by rfl, ?_⟩) hHeld ?_ ?_
    rotate_left
    · rintro w' ⟨s0, s1, s2, s3, s4⟩
      go_simp
      with_reducible rfl
    rotate_left
    · simp only [Act.put, List.setIfInBounds_toArray, List.set_cons_zero, List.set_cons_succ, i64_w, i32_w]
      rfl
    refine pure_ (i := 6) (N := some 10) (v := ?_) (a' := ?_) #[true, true, true, true, true, true, true, false, false, false, false] rfl rfl (by kernel_rfl) (fun _ _ _ h => h) (Or.inl ⟨by rfl, ?_⟩) ?_ ?_
    rotate_left
    · intro w'
      go_simp
      with_reducible rfl
    rotate_left
    · simp only [Act.put, List.setIfInBounds_toArray, List.set_cons_zero, List.set_cons_succ, i64_w, i32_w]
      rfl
    refine pure_ (i := 7) (N := some 17) (v := ?_) (a' := ?_) #[true, true, true, true, true, true, true, true, false, false, false] rfl rfl (by kernel_rfl) (fun _ _ _ h => h) (Or.inl ⟨by rfl, ?_⟩) ?_ ?_
    rotate_left
    · intro w'
      go_simp
      with_reducible rfl
    rotate_left
    · simp only [Act.put, List.setIfInBounds_toArray, List.set_cons_zero, List.set_cons_succ, i64_w, i32_w]
      rfl
    refine pure_ (i := 8) (N := some 18) (v := ?_) (a' := ?_) #[true, true, true, true, true, true, true, true, true, false, false] rfl rfl (by kernel_rfl) (fun _ _ _ h => h) (Or.inl ⟨by rfl, ?_⟩) ?_ ?_
    rotate_left
    · intro w'
      go_simp
      with_reducible rfl
    rotate_left
    · simp only [Act.put, List.setIfInBounds_toArray, List.set_cons_zero, List.set_cons_succ, i64_w, i32_w]
      rfl
    refine pure_ (i := 9) (N := some 6) (v := ?_) (a' := ?_) #[true, true, true, true, true, true, true, true, true, true, false] rfl rfl (by kernel_rfl) (fun _ _ _ h => h) (Or.inl ⟨by rfl, ?_⟩) ?_ ?_
    rotate_left
    · intro w'
      go_simp
      with_reducible rfl
    rotate_left
    · simp only [Act.put, List.setIfInBounds_toArray, List.set_cons_zero, List.set_cons_succ, i64_w, i32_w]
      rfl
    refine pure_ (i := 10) (N := some 7) (v := ?_) (a' := ?_) #[true, true, true, true, true, true, true, true, true, true, true] rfl rfl (by kernel_rfl) (fun _ _ _ h => h) (Or.inl ⟨by rfl, ?_⟩) ?_ ?_
    rotate_left
    · intro w'
      go_simp
      with_reducible rfl
    rotate_left
    · simp only [Act.put, List.setIfInBounds_toArray, List.set_cons_zero, List.set_cons_succ, i64_w, i32_w]
      rfl
    refine done_ (by kernel_rfl) ?_
    clear hHeld
    have q3 := (HS.mv 1).cell 2
    obtain ⟨q4, q5, q6, q7⟩ := HC.out _ _ (HS.mv 2)
    go_wp2_with fail
    go_ret2
    exact ⟨rfl, (HS.out 0)⟩
set_option maxHeartbeats 4000000 in
set_option maxRecDepth 20000 in
theorem span_sh {gs gst gf gg : Nat} {Al Ar Ao : Option Addr} {cl cr co : Nat} {ps : List Lp} {rcs : List Rc} {ov : List Td} {rows : List Rw} {high : Int} {X : HP} (n : Nat) (hk : Kept rows n) (hn : n ≤ 1000000) (a b : ByteArray) :
    Fun Try.prog 15 #[.pointer (some ⟨gs, 0, none⟩), .agg #[.string a, .string b]] (fun _ => True) [HP.obj gs 98 [.pointer (some ⟨gst, 0, none⟩), .slice Al ps.length cl, .slice Ar rcs.length cr, .map (some gf), .slice Ao ov.length co, .map (some gg), .int .i64 high], someH gst rows] (fun r => [HP.row kHt 51 r (span rows a b ever), HP.obj gs 98 [.pointer (some ⟨gst, 0, none⟩), .slice Al ps.length cl, .slice Ar rcs.length cr, .map (some gf), .slice Ao ov.length co, .map (some gg), .int .i64 high], someH gst rows]) := by
  intro w S hS hR
  have HS := St.start hS
  clear hS hR
  have hu98 := Try.underlying98
  have hu24 := Try.underlying24
  go_enter Try.func15, Try.ntmps15
  go_wp2_with (first
    | ((with_reducible refine gate_dst (N := 3) rfl ?_); refine ev_box ?hg (N := 3) ?hd (cs := [.string a, .string b]) (t := 24) HS ?hr ?_; (case hd => rfl); (case hg => rfl); (case hr => first | (go_simp; done) | (go_simp; rfl)); intro g1 w2 HS_ hg_; clear hg_; clear HS; have HS : St w S w2 [HP.obj g1 24 [.string a, .string b], HP.obj gs 98 [.pointer (some ⟨gst, 0, none⟩), .slice Al ps.length cl, .slice Ar rcs.length cr, .map (some gf), .slice Ao ov.length co, .map (some gg), .int .i64 high], someH gst rows] := HS_; clear HS_))
  replace HS := HS.drew
  refine start_ (n := 7) (S := fun w' => w'.cell? ⟨gs, 0, none⟩ = some (.pointer (some ⟨gst, 0, none⟩)) ∧ w'.cell? ⟨g1, 0, none⟩ = some (.string a) ∧ w'.cell? ⟨g1, 1, none⟩ = some (.string b)) (ds := []) #[false, false, false, false, false, false, false] (by kernel_rfl) rfl rfl ⟨(HS.mv 1).cell 0, HS.cell 0, HS.cell 1⟩ (fun hHeld => ?_)
  refine pure_ (i := 0) (N := some 7) (v := ?_) (a' := ?_) #[true, false, false, false, false, false, false] rfl rfl (by kernel_rfl) (fun _ _ _ h => h) (Or.inl ⟨by rfl, ?_⟩) ?_ ?_
  rotate_left
  · intro w'
    go_simp
    with_reducible rfl
  rotate_left
  · simp only [Act.put, List.setIfInBounds_toArray, List.set_cons_zero, List.set_cons_succ, i64_w, i32_w]
    rfl
  refine pure_ (i := 1) (N := some 8) (v := ?_) (a' := ?_) #[true, true, false, false, false, false, false] rfl rfl (by kernel_rfl) (fun _ _ _ h => h) (Or.inl ⟨by rfl, ?_⟩) ?_ ?_
  rotate_left
  · intro w'
    go_simp
    with_reducible rfl
  rotate_left
  · simp only [Act.put, List.setIfInBounds_toArray, List.set_cons_zero, List.set_cons_succ, i64_w, i32_w]
    rfl
  refine pure_ (i := 2) (N := some 9) (v := ?_) (a' := ?_) #[true, true, true, false, false, false, false] rfl rfl (by kernel_rfl) (fun _ _ _ h => h) (Or.inl ⟨by rfl, ?_⟩) ?_ ?_
  rotate_left
  · intro w'
    go_simp
    with_reducible rfl
  rotate_left
  · simp only [Act.put, List.setIfInBounds_toArray, List.set_cons_zero, List.set_cons_succ, i64_w, i32_w]
    rfl
  refine take_ (i := 3) (N := some 10) (v := ?_) (a' := ?_) #[true, true, true, true, false, false, false] rfl rfl (by kernel_rfl) (fun _ _ _ h => h) (Or.inl ⟨by rfl, ?_⟩) hHeld ?_ ?_
  rotate_left
  · rintro w' ⟨s0, s1, s2⟩
    go_simp
    with_reducible rfl
  rotate_left
  · simp only [Act.put, List.setIfInBounds_toArray, List.set_cons_zero, List.set_cons_succ, i64_w, i32_w]
    rfl
  refine take_ (i := 4) (N := some 11) (v := ?_) (a' := ?_) #[true, true, true, true, true, false, false] rfl rfl (by kernel_rfl) (fun _ _ _ h => h) (Or.inl ⟨by rfl, ?_⟩) hHeld ?_ ?_
  rotate_left
  · rintro w' ⟨s0, s1, s2⟩
    go_simp
    with_reducible rfl
  rotate_left
  · simp only [Act.put, List.setIfInBounds_toArray, List.set_cons_zero, List.set_cons_succ, i64_w, i32_w]
    rfl
  refine one_ (i := 5) (N := some 12) #[true, true, true, true, true, true, false] rfl rfl (by kernel_rfl) (by decide) (fun K hK => ?_)
  refine goes_ Try.func33 (by kernel_rfl) rfl #[.pointer (some ⟨gst, 0, none⟩), .agg #[.string a, .string b], .int .i64 9223372036854775807] (by rfl) rfl rfl (by simp only [List.map_toArray, List.map_cons, List.map_nil]; rfl) ?_
  refine ((spanS_fun gst rows n hk hn a b ever).call (F := [HP.obj g1 24 [.string a, .string b], HP.obj gs 98 [.pointer (some ⟨gst, 0, none⟩), .slice Al ps.length cl, .slice Ar rcs.length cr, .map (some gf), .slice Ao ov.length co, .map (some gg), .int .i64 high]]) (HS.mv 2) (fun _ _ _ _ => trivial)).mono ?_
  rintro e_ w6 ⟨v5, rfl, HS_⟩
  refine ⟨_, rfl, ?_⟩
  clear HS
  have HS : St w S w6 [HP.row kHt 51 v5 (span rows a b ever), someH gst rows, HP.obj g1 24 [.string a, .string b], HP.obj gs 98 [.pointer (some ⟨gst, 0, none⟩), .slice Al ps.length cl, .slice Ar rcs.length cr, .map (some gf), .slice Ao ov.length co, .map (some gg), .int .i64 high]] := HS_
  clear HS_
  refine hK.out _ _ ⟨(HS.mv 3).cell 0, (HS.mv 2).cell 0, (HS.mv 2).cell 1⟩ (fun hHeld => ?_)
  clear hK K
  refine norm_ (a' := ?_) ?_ ?_
  rotate_left
  · show Act.put _ (some 12) _ = _
    simp only [Act.put, List.setIfInBounds_toArray, List.set_cons_zero, List.set_cons_succ, i64_w, i32_w]
    rfl
  refine pure_ (i := 6) (N := some 4) (v := ?_) (a' := ?_) #[true, true, true, true, true, true, true] rfl rfl (by kernel_rfl) (fun _ _ _ h => h) (Or.inl ⟨by rfl, ?_⟩) ?_ ?_
  rotate_left
  · intro w'
    go_simp
    with_reducible rfl
  rotate_left
  · simp only [Act.put, List.setIfInBounds_toArray, List.set_cons_zero, List.set_cons_succ, i64_w, i32_w]
    rfl
  refine done_ (by kernel_rfl) ?_
  clear hHeld
  go_wp2_with fail
  go_ret
  exact ⟨_, rfl, ((((HS.out 2).mv 1).mv 2).mv 2)⟩
end Go.Proofs.Ytphenpncdhgdhaa.Shd
