/- copied, Locks, walked. -/
import Derived.Test.YtphenpncdhgdhaaShJ
namespace Go.Proofs.Ytphenpncdhgdhaa.Shd
open Go.RowKit Go.Proofs.YtphenpncdhgdhaaW.PrintWords Go.Proofs.YtphenpncdhgdhaaW.PrintLast Go.Proofs.YtphenpncdhgdhaaW.PrintMore Go.Proofs.Ytphenpncdhgdhaa.Sl Go.Proofs.Ytphenpncdhgdhaa.Str Go.Proofs.Ytphenpncdhgdhaa.Ver
set_option linter.unusedVariables false
set_option linter.unusedSimpArgs false
theorem szShK32 : (Try.prog.info? 32).map (·.size) = some 1 := by kernel_rfl
theorem szShK60 : (Try.prog.info? 60).map (·.size) = some 1 := by kernel_rfl
theorem szShK62 : (Try.prog.info? 62).map (·.size) = some 7 := by kernel_rfl
/-- Locks told: their lists are their own. -/
def inn (ps : List Lp) : List HP := ps.map (fun p => HP.star (HP.row kSp 24 p.u p.l.sps) (HP.row kWr 64 p.v p.l.wrs))
theorem inn_sup : ∀ (ps : List Lp), Sup (Sl.all (inn ps)) ps
  | [], w, S, h, p, hp => by simp at hp
  | q :: ps, w, S, h, p, hp => by
    obtain ⟨S1, S2, a, b, _⟩ := h
    rcases List.mem_cons.1 hp with rfl | hp
    · obtain ⟨S3, S4, h3, h4, _⟩ := a
      obtain ⟨A1, c1, e1, k1, q1⟩ := Kd.R_reads h3
      obtain ⟨A2, c2, e2, k2, q2⟩ := Kd.R_reads h4
      exact ⟨A1, c1, A2, c2, e1, k1, q1, e2, k2, q2⟩
    · exact inn_sup ps w S2 b p hp
structure Lo where
  A : Option Addr
  c : Nat
  ps : List Lp
def toldH (o : Lo) : HP := Sl.all [HP.row kLp 62 (.slice o.A o.ps.length o.c) o.ps, Sl.all (inn o.ps)]
set_option maxHeartbeats 4000000 in
set_option maxRecDepth 20000 in
theorem copied_fun (l : Lk) (A1 : Option Addr) (c1 : Nat) (A2 : Option Addr) (c2 : Nat) (hs : l.sps.length * 32 ≤ 140737488355328) (hw : l.wrs.length * 40 ≤ 140737488355328) :
    Fun Try.prog 34 #[.agg #[.int .i64 l.t.a, .int .i64 l.t.b, .int .i64 l.t.c, .int .i64 l.home, .int .i64 l.til, .slice A1 l.sps.length c1, .slice A2 l.wrs.length c2]] (fun w => Kd.C kSp w A1 l.sps.length l.sps ∧ Kd.C kWr w A2 l.wrs.length l.wrs) [] (fun r => [HP.ex fun u : Value => HP.ex fun v : Value => HP.and (r = .agg #[.int .i64 l.t.a, .int .i64 l.t.b, .int .i64 l.t.c, .int .i64 l.home, .int .i64 l.til, u, v]) (HP.star (HP.row kSp 24 u l.sps) (HP.row kWr 64 v l.wrs))]) := by
  intro w S hS hR
  have HS := St.start hS
  have HR := Aside0.mk hR
  clear hS hR
  have hu62 := Try.underlying62
  have hu24 := Try.underlying24
  have hu64 := Try.underlying64
  go_enter Try.func34, Try.ntmps34
  go_wp2_with (first
    | ((with_reducible refine gate_dst (N := 1) rfl ?_); refine ev_box ?hg (N := 1) ?hd (cs := [.int .i64 l.t.a, .int .i64 l.t.b, .int .i64 l.t.c, .int .i64 l.home, .int .i64 l.til, .slice A1 l.sps.length c1, .slice A2 l.wrs.length c2]) (t := 62) HS ?hr ?_; (case hd => rfl); (case hg => rfl); (case hr => first | (go_simp; done) | (go_simp; rfl)); intro g1 w2 HS_ hg_; clear hg_; clear HS; have HS : St w S w2 [HP.obj g1 62 [.int .i64 l.t.a, .int .i64 l.t.b, .int .i64 l.t.c, .int .i64 l.home, .int .i64 l.til, .slice A1 l.sps.length c1, .slice A2 l.wrs.length c2]] := HS_; clear HS_)
    | ((with_reducible refine gate_dst (N := 2) rfl ?_); refine ev_box ?hg (N := 2) ?hd (cs := [.int .i64 0, .int .i64 0, .int .i64 0, .int .i64 0, .int .i64 0, .slice none 0 0, .slice none 0 0]) (t := 62) HS ?hr ?_; (case hd => rfl); (case hg => rfl); (case hr => first | (go_simp; done) | (go_simp; rfl)); intro g3 w4 HS_ hg_; clear hg_; clear HS; have HS : St w S w4 [HP.obj g3 62 [.int .i64 0, .int .i64 0, .int .i64 0, .int .i64 0, .int .i64 0, .slice none 0 0, .slice none 0 0], HP.obj g1 62 [.int .i64 l.t.a, .int .i64 l.t.b, .int .i64 l.t.c, .int .i64 l.home, .int .i64 l.til, .slice A1 l.sps.length c1, .slice A2 l.wrs.length c2]] := HS_; clear HS_))
  replace HS := HS.drew
  refine start_ (n := 10) (S := fun w' => w'.cell? ⟨g1, 5, none⟩ = some (.slice A1 l.sps.length c1) ∧ w'.cell? ⟨g1, 6, none⟩ = some (.slice A2 l.wrs.length c2)) (ds := [7, 9]) #[false, false, false, false, false, false, false, false, false, false] (by kernel_rfl) rfl rfl ⟨(HS.mv 1).cell 5, (HS.mv 1).cell 6⟩ (fun hHeld => ?_)
  refine pure_ (i := 0) (N := some 3) (v := ?_) (a' := ?_) #[true, false, false, false, false, false, false, false, false, false] rfl rfl (by kernel_rfl) (fun _ _ _ h => h) (Or.inl ⟨by rfl, ?_⟩) ?_ ?_
  rotate_left
  · intro w'
    go_simp
    with_reducible rfl
  rotate_left
  · simp only [Act.put, List.setIfInBounds_toArray, List.set_cons_zero, List.set_cons_succ, i64_w, i32_w]
    rfl
  refine pure_ (i := 3) (N := some 6) (v := ?_) (a' := ?_) #[true, false, false, true, false, false, false, false, false, false] rfl rfl (by kernel_rfl) (fun _ _ _ h => h) (Or.inl ⟨by rfl, ?_⟩) ?_ ?_
  rotate_left
  · intro w'
    go_simp
    with_reducible rfl
  rotate_left
  · simp only [Act.put, List.setIfInBounds_toArray, List.set_cons_zero, List.set_cons_succ, i64_w, i32_w]
    rfl
  refine take_ (i := 1) (N := some 4) (v := ?_) (a' := ?_) #[true, true, false, true, false, false, false, false, false, false] rfl rfl (by kernel_rfl) (fun _ _ _ h => h) (Or.inl ⟨by rfl, ?_⟩) hHeld ?_ ?_
  rotate_left
  · rintro w' ⟨s0, s1⟩
    go_simp
    with_reducible rfl
  rotate_left
  · simp only [Act.put, List.setIfInBounds_toArray, List.set_cons_zero, List.set_cons_succ, i64_w, i32_w]
    rfl
  refine take_ (i := 4) (N := some 7) (v := ?_) (a' := ?_) #[true, true, false, true, true, false, false, false, false, false] rfl rfl (by kernel_rfl) (fun _ _ _ h => h) (Or.inl ⟨by rfl, ?_⟩) hHeld ?_ ?_
  rotate_left
  · rintro w' ⟨s0, s1⟩
    go_simp
    with_reducible rfl
  rotate_left
  · simp only [Act.put, List.setIfInBounds_toArray, List.set_cons_zero, List.set_cons_succ, i64_w, i32_w]
    rfl
  refine one_ (i := 2) (N := some 5) #[true, true, true, true, true, false, false, false, false, false] rfl rfl (by kernel_rfl) (by decide) (fun K hK => ?_)
  refine goes_ Try.func61 (by kernel_rfl) rfl #[.slice A1 l.sps.length c1] (by rfl) rfl rfl (by simp only [List.map_toArray, List.map_cons, List.map_nil]; rfl) ?_
  refine ((cloneSp_fun A1 c1 l.sps hs).call (F := [HP.obj g3 62 [.int .i64 0, .int .i64 0, .int .i64 0, .int .i64 0, .int .i64 0, .slice none 0 0, .slice none 0 0], HP.obj g1 62 [.int .i64 l.t.a, .int .i64 l.t.b, .int .i64 l.t.c, .int .i64 l.home, .int .i64 l.til, .slice A1 l.sps.length c1, .slice A2 l.wrs.length c2]]) HS (fun w_ _ e_ _ => (HR.out w_ e_).1)).mono ?_
  rintro e_ w15 ⟨v_, rfl, HS_⟩
  refine ⟨_, rfl, ?_⟩
  clear HS
  obtain ⟨A13, c14, rfl, -, -⟩ := St.row_C HS_
  have HS : St w S w15 [HP.row kSp 24 (.slice A13 l.sps.length c14) l.sps, HP.obj g3 62 [.int .i64 0, .int .i64 0, .int .i64 0, .int .i64 0, .int .i64 0, .slice none 0 0, .slice none 0 0], HP.obj g1 62 [.int .i64 l.t.a, .int .i64 l.t.b, .int .i64 l.t.c, .int .i64 l.home, .int .i64 l.til, .slice A1 l.sps.length c1, .slice A2 l.wrs.length c2]] := HS_
  clear HS_
  refine hK.out _ _ ⟨(HS.mv 2).cell 5, (HS.mv 2).cell 6⟩ (fun hHeld => ?_)
  clear hK K
  refine norm_ (a' := ?_) ?_ ?_
  rotate_left
  · show Act.put _ (some 5) _ = _
    simp only [Act.put, List.setIfInBounds_toArray, List.set_cons_zero, List.set_cons_succ, i64_w, i32_w]
    rfl
  refine pure_ (i := 6) (N := some 9) (v := ?_) (a' := ?_) #[true, true, true, true, true, false, true, false, false, false] rfl rfl (by kernel_rfl) (fun _ _ _ h => h) (Or.inl ⟨by rfl, ?_⟩) ?_ ?_
  rotate_left
  · intro w'
    go_simp
    with_reducible rfl
  rotate_left
  · simp only [Act.put, List.setIfInBounds_toArray, List.set_cons_zero, List.set_cons_succ, i64_w, i32_w]
    rfl
  refine one_ (i := 5) (N := some 8) #[true, true, true, true, true, true, true, false, false, false] rfl rfl (by kernel_rfl) (by decide) (fun K hK => ?_)
  refine goes_ Try.func55 (by kernel_rfl) rfl #[.slice A2 l.wrs.length c2] (by rfl) rfl rfl (by simp only [List.map_toArray, List.map_cons, List.map_nil]; rfl) ?_
  refine ((cloneWr_fun A2 c2 l.wrs hw).call (F := [HP.row kSp 24 (.slice A13 l.sps.length c14) l.sps, HP.obj g3 62 [.int .i64 0, .int .i64 0, .int .i64 0, .int .i64 0, .int .i64 0, .slice none 0 0, .slice none 0 0], HP.obj g1 62 [.int .i64 l.t.a, .int .i64 l.t.b, .int .i64 l.t.c, .int .i64 l.home, .int .i64 l.til, .slice A1 l.sps.length c1, .slice A2 l.wrs.length c2]]) HS (fun w_ _ e_ _ => (HR.out w_ e_).2)).mono ?_
  rintro e_ w18 ⟨v_, rfl, HS_⟩
  refine ⟨_, rfl, ?_⟩
  clear HS
  obtain ⟨A16, c17, rfl, -, -⟩ := St.row_C HS_
  have HS : St w S w18 [HP.row kWr 64 (.slice A16 l.wrs.length c17) l.wrs, HP.row kSp 24 (.slice A13 l.sps.length c14) l.sps, HP.obj g3 62 [.int .i64 0, .int .i64 0, .int .i64 0, .int .i64 0, .int .i64 0, .slice none 0 0, .slice none 0 0], HP.obj g1 62 [.int .i64 l.t.a, .int .i64 l.t.b, .int .i64 l.t.c, .int .i64 l.home, .int .i64 l.til, .slice A1 l.sps.length c1, .slice A2 l.wrs.length c2]] := HS_
  clear HS_
  refine hK.out _ _ ⟨(HS.mv 3).cell 5, (HS.mv 3).cell 6⟩ (fun hHeld => ?_)
  clear hK K
  refine norm_ (a' := ?_) ?_ ?_
  rotate_left
  · show Act.put _ (some 8) _ = _
    simp only [Act.put, List.setIfInBounds_toArray, List.set_cons_zero, List.set_cons_succ, i64_w, i32_w]
    rfl
  refine last_ (i := 7) (N := none) #[true, true, true, true, true, true, true, true, false, false] rfl rfl (by kernel_rfl) (by decide) (fun K hK => ?_)
  refine ev_store_step2 (by rfl) rfl 60 (.tmp 9) (.tmp 5) rfl [.int .i64 l.t.a, .int .i64 l.t.b, .int .i64 l.t.c, .int .i64 l.home, .int .i64 l.til, .slice A13 l.sps.length c14, .slice A2 l.wrs.length c2] (HS.mv 3) rfl rfl (seg := [.slice A13 l.sps.length c14]) rfl ?ht rfl ?hf ?he ?_
  case ht => exact szShK60
  case he => kernel_rfl
  case hf => first | (simp; done) | (simp [splice]; done)
  intro w19 HS_
  clear HS
  have HS : St w S w19 [HP.obj g1 62 [.int .i64 l.t.a, .int .i64 l.t.b, .int .i64 l.t.c, .int .i64 l.home, .int .i64 l.til, .slice A13 l.sps.length c14, .slice A2 l.wrs.length c2], HP.row kWr 64 (.slice A16 l.wrs.length c17) l.wrs, HP.row kSp 24 (.slice A13 l.sps.length c14) l.sps, HP.obj g3 62 [.int .i64 0, .int .i64 0, .int .i64 0, .int .i64 0, .int .i64 0, .slice none 0 0, .slice none 0 0]] := HS_
  clear HS_
  refine hK.out _ _ ?_
  clear hK K
  refine pure_ (i := 8) (N := some 10) (v := ?_) (a' := ?_) #[true, true, true, true, true, true, true, true, true, false] rfl rfl (by kernel_rfl) (fun _ _ _ h => h) (Or.inl ⟨by rfl, ?_⟩) ?_ ?_
  rotate_left
  · intro w'
    go_simp
    with_reducible rfl
  rotate_left
  · simp only [Act.put, List.setIfInBounds_toArray, List.set_cons_zero, List.set_cons_succ, i64_w, i32_w]
    rfl
  refine last_ (i := 9) (N := none) #[true, true, true, true, true, true, true, true, true, true] rfl rfl (by kernel_rfl) (by decide) (fun K hK => ?_)
  refine ev_store_step2 (by rfl) rfl 32 (.tmp 10) (.tmp 8) rfl [.int .i64 l.t.a, .int .i64 l.t.b, .int .i64 l.t.c, .int .i64 l.home, .int .i64 l.til, .slice A13 l.sps.length c14, .slice A16 l.wrs.length c17] HS rfl rfl (seg := [.slice A16 l.wrs.length c17]) rfl ?ht rfl ?hf ?he ?_
  case ht => exact szShK32
  case he => kernel_rfl
  case hf => first | (simp; done) | (simp [splice]; done)
  intro w20 HS_
  clear HS
  have HS : St w S w20 [HP.obj g1 62 [.int .i64 l.t.a, .int .i64 l.t.b, .int .i64 l.t.c, .int .i64 l.home, .int .i64 l.til, .slice A13 l.sps.length c14, .slice A16 l.wrs.length c17], HP.row kWr 64 (.slice A16 l.wrs.length c17) l.wrs, HP.row kSp 24 (.slice A13 l.sps.length c14) l.sps, HP.obj g3 62 [.int .i64 0, .int .i64 0, .int .i64 0, .int .i64 0, .int .i64 0, .slice none 0 0, .slice none 0 0]] := HS_
  clear HS_
  refine hK.out _ _ ?_
  clear hK K
  refine done_ (by kernel_rfl) ?_
  clear hHeld
  have q21 := HS.cell 0
  have q22 := HS.cell 1
  have q23 := HS.cell 2
  have q24 := HS.cell 3
  have q25 := HS.cell 4
  have q26 := HS.cell 5
  have q27 := HS.cell 6
  go_wp2_with (first
    | ((with_reducible refine gate_ (.store 62 (.tmp 2) (.tmp 11)) rfl ?_); refine ev_store2 rfl rfl 62 (.tmp 2) (.tmp 11) rfl [.int .i64 l.t.a, .int .i64 l.t.b, .int .i64 l.t.c, .int .i64 l.home, .int .i64 l.til, .slice A13 l.sps.length c14, .slice A16 l.wrs.length c17] (HS.mv 3) (g := g3) (j := 0) rfl rfl (seg := [.int .i64 l.t.a, .int .i64 l.t.b, .int .i64 l.t.c, .int .i64 l.home, .int .i64 l.til, .slice A13 l.sps.length c14, .slice A16 l.wrs.length c17]) rfl ?ht (by first | rfl | assumption) ?hf ?he ?_; (case ht => exact szShK62); (case he => kernel_rfl); (case hf => first | (simp; done) | (simp [splice]; done)); intro w28 HS_; clear HS q21 q22 q23 q24 q25 q26 q27; have HS : St w S w28 [HP.obj g3 62 [.int .i64 l.t.a, .int .i64 l.t.b, .int .i64 l.t.c, .int .i64 l.home, .int .i64 l.til, .slice A13 l.sps.length c14, .slice A16 l.wrs.length c17], HP.obj g1 62 [.int .i64 l.t.a, .int .i64 l.t.b, .int .i64 l.t.c, .int .i64 l.home, .int .i64 l.til, .slice A13 l.sps.length c14, .slice A16 l.wrs.length c17], HP.row kWr 64 (.slice A16 l.wrs.length c17) l.wrs, HP.row kSp 24 (.slice A13 l.sps.length c14) l.sps] := HS_; clear HS_))
  have HB := HS.blk
  try simp only [Exit.inBlock, Exit.then]
  refine bodyPost_ret (results_cell_row rfl _ _ g3 62 #[.int .i64 l.t.a, .int .i64 l.t.b, .int .i64 l.t.c, .int .i64 l.home, .int .i64 l.til, .slice A13 l.sps.length c14, .slice A16 l.wrs.length c17] (0, 0) _ rfl HB Try.underlying62 rfl (by kernel_rfl)) rfl ?_
  exact ⟨_, rfl, St.ex_in _ (St.ex_in _ (St.and_in rfl (St.unstar (((HS.out 0).out 0).mv 1))))⟩
set_option maxHeartbeats 4000000 in
set_option maxRecDepth 20000 in
theorem locks_fun {gs gst gf gg : Nat} {Al Ar Ao : Option Addr} {cl cr co : Nat} {ps : List Lp} {rcs : List Rc} {ov : List Td} {rows : List Rw} {high : Int} {X : HP} (hSup : Sup X ps) (hl : ps.length ≤ 1000000) (hw : ∀ p ∈ ps, p.l.wrs.length ≤ 1000000 ∧ p.l.sps.length ≤ 1000000) :
    Fun Try.prog 17 #[.pointer (some ⟨gs, 0, none⟩)] (fun _ => True) [HP.obj gs 98 [.pointer (some ⟨gst, 0, none⟩), .slice Al ps.length cl, .slice Ar rcs.length cr, .map (some gf), .slice Ao ov.length co, .map (some gg), .int .i64 high], HP.row kLp 62 (.slice Al ps.length cl) ps, X] (fun r => [HP.ex fun o : Lo => HP.and (r = .slice o.A o.ps.length o.c ∧ o.ps.map (·.l) = ps.map (·.l)) (toldH o), HP.obj gs 98 [.pointer (some ⟨gst, 0, none⟩), .slice Al ps.length cl, .slice Ar rcs.length cr, .map (some gf), .slice Ao ov.length co, .map (some gg), .int .i64 high], HP.row kLp 62 (.slice Al ps.length cl) ps, X]) := by
  intro w S hS hR
  have HS := St.start hS
  have HSUP := Aside0.mk hSup
  have HWL := Aside0.mk hw
  clear hS hR hSup hw
  have hu98 := Try.underlying98
  have hu62 := Try.underlying62
  have hus := Try.underlying58
  have HS := HS.nil_ kLp 62
  go_enter Try.func17, Try.ntmps17
  have q1 := (HS.mv 1).cell 1
  go_wp2_with fail
  have HS := HS.idle
  go_loopw [3, 13] (fun v3 v13 w' => ∃ (k : Nat) (acc : List Lp) (Aq : Option Addr) (cq : Nat), k ≤ ps.length ∧ v13 = .int .i64 k ∧ v3 = .slice Aq acc.length cq ∧ Aside0 (acc.map (·.l) = (ps.take k).map (·.l)) ∧ St w S w' [HP.row kLp 62 (.slice Aq acc.length cq) acc, Sl.all (inn acc), HP.obj gs 98 [.pointer (some ⟨gst, 0, none⟩), .slice Al ps.length cl, .slice Ar rcs.length cr, .map (some gf), .slice Ao ov.length co, .map (some gg), .int .i64 high], HP.row kLp 62 (.slice Al ps.length cl) ps, X]) (fun v3 v13 _ => ps.length - (intOf v13).toNat)
  case atStart => exact ⟨0, [], none, 0, Nat.zero_le _, rfl, rfl, ⟨rfl⟩, (((((HS.mv 4).mv 4).mv 4).mv 3).mv 4)⟩
  case round =>
    clear HS
    obtain ⟨k, acc, Aq, cq, hk, rfl, rfl, HE, HS⟩ := hrel
    have hk0 : (0 : Int) ≤ (k : Int) := by omega
    have hal : acc.length ≤ 1000000 := by have := congrArg List.length HE.out; rw [List.length_map, List.length_map, List.length_take] at this; omega
    by_cases hlt : k < ps.length
    · skip
      have hltI : (k : Int) < (ps.length : Int) := by omega
      have hwk : IntKind.i64.wrap ((k : Int) + 1) = ((k + 1 : Nat) : Int) := by rw [IntWalk.i64_in _ (by omega)]; omega
      have htk : ps.take (k + 1) = ps.take k ++ [ps[k]] := List.take_succ_eq_append_getElem hlt
      have hp : ps[k]? = some ps[k] := List.getElem?_eq_getElem hlt
      have hm : ps[k] ∈ ps := List.getElem_mem hlt
      obtain ⟨p, hpe⟩ : ∃ p, ps[k] = p := ⟨_, rfl⟩
      rw [hpe] at htk hp hm
      obtain ⟨gl, cl_, ev⟩ := St.row_form (HS.mv 3) (by omega)
      simp only [Value.slice.injEq] at ev
      obtain ⟨rfl, -, rfl⟩ := ev
      have hfl := HWL.out p hm
      obtain ⟨l, u, v⟩ := p
      obtain ⟨A1, c1, A2, c2, hu_, -, -, hv_, -, -⟩ := sup_st HSUP.out (HS.mv 4) hm
      have hu2_ : u = .slice A1 l.sps.length c1 := hu_
      have hv2_ : v = .slice A2 l.wrs.length c2 := hv_
      clear hu_ hv_
      subst hu2_
      subst hv2_
      have HFL := Aside0.mk (show l.wrs.length ≤ 1000000 ∧ l.sps.length ≤ 1000000 from hfl)
      have HMEM := Aside0.mk hm
      have HC := Aside0.mk (fun (w' : World) (F : List HP) (h : St w S w' (HP.row kLp 62 (.slice (some ⟨gl, 0, none⟩) ps.length cl) ps :: F)) => (show w'.cell? ⟨gl, k * 7, none⟩ = some (.int .i64 l.t.a) ∧ w'.cell? ⟨gl, k * 7 + 1, none⟩ = some (.int .i64 l.t.b) ∧ w'.cell? ⟨gl, k * 7 + 2, none⟩ = some (.int .i64 l.t.c) ∧ w'.cell? ⟨gl, k * 7 + 3, none⟩ = some (.int .i64 l.home) ∧ w'.cell? ⟨gl, k * 7 + 4, none⟩ = some (.int .i64 l.til) ∧ w'.cell? ⟨gl, k * 7 + 5, none⟩ = some (.slice A1 l.sps.length c1) ∧ w'.cell? ⟨gl, k * 7 + 6, none⟩ = some (.slice A2 l.wrs.length c2) from Lp_row h k _ hp))
      have HT := Aside0.mk (show ∀ u v, (acc ++ [(⟨l, u, v⟩ : Lp)]).map (·.l) = (ps.take (k + 1)).map (·.l) from fun u v => by rw [htk, List.map_append, List.map_append, HE.out]; rfl)
      clear htk hp hm hpe hfl
      obtain ⟨q2, q3, q4, q5, q6, q7, q8⟩ := HC.out _ _ (HS.mv 3)
      go_wp2_with (first
        | ((with_reducible refine gate_dst (N := 5) rfl ?_); refine ev_box ?hg (N := 5) ?hd (cs := [.int .i64 0, .int .i64 0, .int .i64 0, .int .i64 0, .int .i64 0, .slice none 0 0, .slice none 0 0]) (t := 62) HS ?hr ?_; (case hd => rfl); (case hg => rfl); (case hr => first | (go_simp; done) | (go_simp; rfl)); intro g9 w10 HS_ hg_; clear hg_; clear HS q2 q3 q4 q5 q6 q7 q8; have HS : St w S w10 [HP.obj g9 62 [.int .i64 0, .int .i64 0, .int .i64 0, .int .i64 0, .int .i64 0, .slice none 0 0, .slice none 0 0], HP.row kLp 62 (.slice Aq acc.length cq) acc, Sl.all (inn acc), HP.obj gs 98 [.pointer (some ⟨gst, 0, none⟩), .slice (some ⟨gl, 0, none⟩) ps.length cl, .slice Ar rcs.length cr, .map (some gf), .slice Ao ov.length co, .map (some gg), .int .i64 high], HP.row kLp 62 (.slice (some ⟨gl, 0, none⟩) ps.length cl) ps, X] := HS_; clear HS_)
        | ((with_reducible refine gate_ (.store 62 (.tmp 5) (.tmp 16)) rfl ?_); refine ev_store2 rfl rfl 62 (.tmp 5) (.tmp 16) rfl [.int .i64 l.t.a, .int .i64 l.t.b, .int .i64 l.t.c, .int .i64 l.home, .int .i64 l.til, .slice A1 l.sps.length c1, .slice A2 l.wrs.length c2] HS (g := g9) (j := 0) rfl rfl (seg := [.int .i64 l.t.a, .int .i64 l.t.b, .int .i64 l.t.c, .int .i64 l.home, .int .i64 l.til, .slice A1 l.sps.length c1, .slice A2 l.wrs.length c2]) rfl ?ht (by first | rfl | assumption) ?hf ?he ?_; (case ht => exact szShK62); (case he => kernel_rfl); (case hf => first | (simp; done) | (simp [splice]; done)); intro w11 HS_; clear HS; have HS : St w S w11 [HP.obj g9 62 [.int .i64 l.t.a, .int .i64 l.t.b, .int .i64 l.t.c, .int .i64 l.home, .int .i64 l.til, .slice A1 l.sps.length c1, .slice A2 l.wrs.length c2], HP.row kLp 62 (.slice Aq acc.length cq) acc, Sl.all (inn acc), HP.obj gs 98 [.pointer (some ⟨gst, 0, none⟩), .slice (some ⟨gl, 0, none⟩) ps.length cl, .slice Ar rcs.length cr, .map (some gf), .slice Ao ov.length co, .map (some gg), .int .i64 high], HP.row kLp 62 (.slice (some ⟨gl, 0, none⟩) ps.length cl) ps, X] := HS_; clear HS_; have q12 := HS.cell 0; have q13 := HS.cell 1; have q14 := HS.cell 2; have q15 := HS.cell 3; have q16 := HS.cell 4; have q17 := HS.cell 5; have q18 := HS.cell 6))
      refine ((copied_fun l A1 c1 A2 c2 (by have := HFL.out; omega) (by have := HFL.out; omega)).call (F := [HP.obj g9 62 [.int .i64 l.t.a, .int .i64 l.t.b, .int .i64 l.t.c, .int .i64 l.home, .int .i64 l.til, .slice A1 l.sps.length c1, .slice A2 l.wrs.length c2], HP.row kLp 62 (.slice Aq acc.length cq) acc, Sl.all (inn acc), HP.obj gs 98 [.pointer (some ⟨gst, 0, none⟩), .slice (some ⟨gl, 0, none⟩) ps.length cl, .slice Ar rcs.length cr, .map (some gf), .slice Ao ov.length co, .map (some gg), .int .i64 high], HP.row kLp 62 (.slice (some ⟨gl, 0, none⟩) ps.length cl) ps, X]) HS (fun w_ S_ _ hF_ => ⟨held_u (sup_at HSUP.out hF_ 5 rfl HMEM.out), held_v (sup_at HSUP.out hF_ 5 rfl HMEM.out)⟩)).mono ?_
      rintro e_ w19 ⟨v_, rfl, HS_⟩
      clear HS q12 q13 q14 q15 q16 q17 q18
      obtain ⟨u2, HS1_⟩ := St.ex_ HS_
      obtain ⟨v2, HS2_⟩ := St.ex_ HS1_
      clear HS_ HS1_
      obtain ⟨rfl, HS_⟩ := St.and_ HS2_
      clear HS2_
      have HS : St w S w19 [HP.star (HP.row kSp 24 u2 l.sps) (HP.row kWr 64 v2 l.wrs), HP.obj g9 62 [.int .i64 l.t.a, .int .i64 l.t.b, .int .i64 l.t.c, .int .i64 l.home, .int .i64 l.til, .slice A1 l.sps.length c1, .slice A2 l.wrs.length c2], HP.row kLp 62 (.slice Aq acc.length cq) acc, Sl.all (inn acc), HP.obj gs 98 [.pointer (some ⟨gst, 0, none⟩), .slice (some ⟨gl, 0, none⟩) ps.length cl, .slice Ar rcs.length cr, .map (some gf), .slice Ao ov.length co, .map (some gg), .int .i64 high], HP.row kLp 62 (.slice (some ⟨gl, 0, none⟩) ps.length cl) ps, X] := HS_
      clear HS_
      have hou : u2.oneCell' = true ∧ v2.oneCell' = true := by obtain ⟨B1, d1, q1, -, -⟩ := St.row_C (St.star_ (HS)); obtain ⟨B2, d2, q2, -, -⟩ := St.row_C ((St.star_ (HS)).mv 1); rw [q1, q2]; exact ⟨rfl, rfl⟩
      have HOU := Aside0.mk hou
      clear hou
      go_wp2_with (first
        | ((with_reducible refine gate_dst (N := 20) rfl ?_); refine ev_lit kLp 62 ?hg (N := 20) ?hd (xs := [(⟨l, u2, v2⟩ : Lp)]) (inner := [.int .i64 l.t.a, .int .i64 l.t.b, .int .i64 l.t.c, .int .i64 l.home, .int .i64 l.til, u2, v2]) HS ?hr ?hp (by simp) ?_; (case hd => rfl); (case hg => rfl); (case hr => first | (go_simp; done) | (go_simp; rfl)); (case hp => exact Lp_reps1 _ HOU.out.1 HOU.out.2); intro v21 w22 HS_; obtain ⟨gl23, cl24, hv_⟩ := St.row_form HS_ (by simp); have hv_ : v21 = .slice (some ⟨gl23, 0, none⟩) 1 cl24 := hv_; subst hv_; clear HS; have HS : St w S w22 [HP.row kLp 62 (.slice (some ⟨gl23, 0, none⟩) 1 cl24) [(⟨l, u2, v2⟩ : Lp)], HP.star (HP.row kSp 24 u2 l.sps) (HP.row kWr 64 v2 l.wrs), HP.obj g9 62 [.int .i64 l.t.a, .int .i64 l.t.b, .int .i64 l.t.c, .int .i64 l.home, .int .i64 l.til, .slice A1 l.sps.length c1, .slice A2 l.wrs.length c2], HP.row kLp 62 (.slice Aq acc.length cq) acc, Sl.all (inn acc), HP.obj gs 98 [.pointer (some ⟨gst, 0, none⟩), .slice (some ⟨gl, 0, none⟩) ps.length cl, .slice Ar rcs.length cr, .map (some gf), .slice Ao ov.length co, .map (some gg), .int .i64 high], HP.row kLp 62 (.slice (some ⟨gl, 0, none⟩) ps.length cl) ps, X] := HS_; clear HS_)
        | ((with_reducible refine gate_dst (N := 21) rfl ?_); at_builtin; refine ev_rows kLp Lp_flat rfl (.tmp 17) (.tmp 20) 58 62 _ 88 rfl Try.underlying58 Lp_info rfl (by decide) (by decide) _ acc [(⟨l, u2, v2⟩ : Lp)] _ _ rfl rfl (HS.mv 3) (St.row_reads ((HS.mv 3).mv 1)).2.2 (by simp only [List.length_cons, List.length_nil]; omega) ?_; intro v25 w26 HS_; have HS_ := (HS_).out 1; obtain ⟨A27, c28, hv_, -, -⟩ := St.row_C HS_; obtain ⟨n29, hn29⟩ : ∃ n, (acc ++ [(⟨l, u2, v2⟩ : Lp)]).length = n := ⟨_, rfl⟩; rw [hn29] at hv_; have Ln29 := Aside0.mk hn29; clear hn29; subst hv_; clear HS; have HS : St w S w26 [HP.row kLp 62 (.slice A27 n29 c28) (acc ++ [(⟨l, u2, v2⟩ : Lp)]), HP.star (HP.row kSp 24 u2 l.sps) (HP.row kWr 64 v2 l.wrs), HP.obj g9 62 [.int .i64 l.t.a, .int .i64 l.t.b, .int .i64 l.t.c, .int .i64 l.home, .int .i64 l.til, .slice A1 l.sps.length c1, .slice A2 l.wrs.length c2], Sl.all (inn acc), HP.obj gs 98 [.pointer (some ⟨gst, 0, none⟩), .slice (some ⟨gl, 0, none⟩) ps.length cl, .slice Ar rcs.length cr, .map (some gf), .slice Ao ov.length co, .map (some gg), .int .i64 high], HP.row kLp 62 (.slice (some ⟨gl, 0, none⟩) ps.length cl) ps, X] := HS_; clear HS_))
      obtain rfl := Ln29.out
      have HS : St w S w26 (Sl.all (inn (acc ++ [⟨l, u2, v2⟩])) :: [HP.row kLp 62 (.slice A27 (acc ++ [(⟨l, u2, v2⟩ : Lp)]).length c28) (acc ++ [(⟨l, u2, v2⟩ : Lp)]), HP.obj gs 98 [.pointer (some ⟨gst, 0, none⟩), .slice (some ⟨gl, 0, none⟩) ps.length cl, .slice Ar rcs.length cr, .map (some gf), .slice Ao ov.length co, .map (some gg), .int .i64 high], HP.row kLp 62 (.slice (some ⟨gl, 0, none⟩) ps.length cl) ps, X]) := by
        have h := (((((((HS.out 2).mv 5).mv 5).mv 5).mv 3).mv 4).mv 5)
        unfold inn
        rw [List.map_append]
        refine St.head ?_ (Gives.app_all _ _)
        exact h.unstar.head ((Gives.refl _).star (Gives.emp_intro _))
      go_roundw
      case rel => exact ⟨k + 1, _, A27, c28, by omega, by go_num, rfl, ⟨HT.out _ _⟩, HS.mv 1⟩
      case measure => simp [intOf]; omega
    · have hltI : ¬ (k : Int) < (ps.length : Int) := by omega
      have HE2 := Aside0.mk (show acc.map (·.l) = ps.map (·.l) from by rw [HE.out, show k = ps.length by omega, List.take_length])
      clear HE
      go_wp2_with fail
      go_ret
      refine ⟨_, rfl, St.ex_in ⟨Aq, cq, acc⟩ (St.and_in ⟨rfl, HE2.out⟩ (St.unall (L := [_, _]) HS))⟩
end Go.Proofs.Ytphenpncdhgdhaa.Shd
