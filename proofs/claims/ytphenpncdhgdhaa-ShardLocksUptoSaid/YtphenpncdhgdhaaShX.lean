/- The law ShardLocks, walked. -/
import Derived.Test.YtphenpncdhgdhaaShLw
import Derived.Test.YtphenpncdhgdhaaShW
namespace Go.Proofs.Ytphenpncdhgdhaa.Shd
open Go.RowKit Go.Proofs.YtphenpncdhgdhaaW.PrintWords Go.Proofs.YtphenpncdhgdhaaW.PrintLast Go.Proofs.YtphenpncdhgdhaaW.PrintMore Go.Proofs.Ytphenpncdhgdhaa.Sl Go.Proofs.Ytphenpncdhgdhaa.Str Go.Proofs.Ytphenpncdhgdhaa.Ver
set_option linter.unusedVariables false
set_option linter.unusedSimpArgs false
theorem szShX40 : (Try.prog.info? 40).map (·.size) = some 30 := by kernel_rfl
theorem szShX42 : (Try.prog.info? 42).map (·.size) = some 31 := by kernel_rfl
theorem szShX64 : (Try.prog.info? 64).map (·.size) = some 3 := by kernel_rfl
set_option maxHeartbeats 4000000 in
set_option maxRecDepth 20000 in
theorem shardLocks_fun (A : Option Addr) (ca : Nat) (os : List OpS) (hok : ∀ o ∈ os, OpOk o) (ht : tot os ≤ 1048576) :
    FunV Try.prog 4 #[.slice A os.length ca] (ScrAt A os) [] (.bool true) [] := by
  intro w S hS hR
  have HS := St.start hS
  have HR := Aside0.mk (fun (w' : World) (F : List HP) (h : St w S w' F) => hR w' h.ext)
  have HR2 := Aside0.mk hR
  have HOK := Aside0.mk hok
  have HTT := Aside0.mk ht
  obtain ⟨gb, hgb⟩ : ∃ gb, greatB os = gb := ⟨_, rfl⟩
  have HGR := Aside0.mk (show FunV Try.prog 11 #[.slice A os.length ca] (ScrAt A os) [] (.bool gb) [] from by rw [← hgb]; exact great_fun A ca os hok ht)
  have HGB := Aside0.mk hgb
  clear hS hR hok ht hgb
  have hu42 := Try.underlying42
  have hu40 := Try.underlying40
  have hu62 := Try.underlying62
  have hu64 := Try.underlying64
  have hus42 := Try.underlying22
  have hus62 := Try.underlying58
  have hus64 := Try.underlying32
  cases gb
  · skip
    have HG3 := great_no HGB.out
    have hos := HG3.2
    have htot := HG3.1
    clear HG3
    go_enter Try.func4, Try.ntmps4
    go_wp2_with fail
    refine ((awake_fun).call (F := []) HS (fun _ _ _ _ => trivial)).mono ?_
    rintro e_ w1 ⟨rfl, HS_⟩
    clear HS
    have HS : St w S w1 [] := HS_
    clear HS_
    go_wp2_with fail
    refine ((HGR.out).call (F := []) HS (fun w_ _ e_ _ => HR2.out w_ e_)).mono ?_
    rintro e_ w2 ⟨rfl, HS_⟩
    clear HS
    have HS : St w S w2 [] := HS_
    clear HS_
    go_wp2_with fail
    refine ((newSh_fun).call (F := []) HS (fun _ _ _ _ => trivial)).mono ?_
    rintro e_ w3 ⟨v_, rfl, HS_⟩
    clear HS
    obtain ⟨gs, HS1_⟩ := St.ex_ HS_
    clear HS_
    obtain ⟨rfl, HS_⟩ := St.and_ HS1_
    clear HS1_
    have HS : St w S w3 [shH gs sh0] := HS_
    clear HS_
    go_wp2_with fail
    go_loopw [21] (fun v21 w' => ∃ (k : Nat) (m : Sh), k ≤ os.length ∧ v21 = .int .i64 k ∧ Aside0 (Fit m (tot (os.take k)) ∧ Apart m.lks ∧ SpOk m) ∧ St w S w' [shH gs m]) (fun v21 _ => os.length - (intOf v21).toNat)
    case atStart => exact ⟨0, sh0, Nat.zero_le _, rfl, ⟨fit0, List.Pairwise.nil, fun l h => by simp [sh0] at h⟩, HS⟩
    case round =>
      clear HS
      obtain ⟨k, m, hk, rfl, HE, HS⟩ := hrel
      have hk0 : (0 : Int) ≤ (k : Int) := by omega
      by_cases hlt : k < os.length
      · skip
        have hltI : (k : Int) < (os.length : Int) := by omega
        have hwk : IntKind.i64.wrap ((k : Int) + 1) = ((k + 1 : Nat) : Int) := by rw [IntWalk.i64_in _ (by omega)]; omega
        have ho : os[k]? = some os[k] := List.getElem?_eq_getElem hlt
        have hm : os[k] ∈ os := List.getElem_mem hlt
        have htk := tot_take os k hlt
        have htl := tot_le os (k + 1)
        obtain ⟨o, hoe⟩ : ∃ o, os[k] = o := ⟨_, rfl⟩
        rw [hoe] at ho hm htk
        have HOO := Aside0.mk (HOK.out o hm)
        have hone : [.int .i64 o.at_, .int .i64 o.c.kind, o.e.b1, o.e.b2, o.e.b3, .int .i64 o.c.t.a, .int .i64 o.c.t.b, .int .i64 o.c.t.c, .int .i64 o.c.home, .slice o.A o.rps.length o.ca, .slice o.B o.c.wrs.length o.cb, .int .i64 o.c.mn, .int .i64 o.c.til, .int .i64 o.c.ts, o.e.d1, o.e.d2, o.e.d3, o.e.d4, o.e.d5, o.e.d6, o.e.d7, o.e.d8, o.e.d9, o.e.d10, o.e.d11, o.e.d12, o.e.d13, o.e.d14, o.e.d15, o.e.d16, o.e.d17].all (fun q => q.oneCell') = true := HOO.out.one
        obtain ⟨ad, rfl, -⟩ := op_at (HR.out _ _ HS) k o ho
        have HCO := Aside0.mk (fun (w' : World) (F : List HP) (h : St w S w' F) => (show ∀ j v, ([.int .i64 o.at_, .int .i64 o.c.kind, o.e.b1, o.e.b2, o.e.b3, .int .i64 o.c.t.a, .int .i64 o.c.t.b, .int .i64 o.c.t.c, .int .i64 o.c.home, .slice o.A o.rps.length o.ca, .slice o.B o.c.wrs.length o.cb, .int .i64 o.c.mn, .int .i64 o.c.til, .int .i64 o.c.ts, o.e.d1, o.e.d2, o.e.d3, o.e.d4, o.e.d5, o.e.d6, o.e.d7, o.e.d8, o.e.d9, o.e.d10, o.e.d11, o.e.d12, o.e.d13, o.e.d14, o.e.d15, o.e.d16, o.e.d17] : List Value)[j]? = some v → w'.cell? ((ad.add (k * 31)).add j) = some v from by obtain ⟨ad', e, q⟩ := op_at (HR.out _ _ h) k o ho; obtain rfl := Option.some.inj e; exact q))
        have HCM := Aside0.mk (fun (w' : World) (h : Ext w w' S) => (HR2.out w' h).2 o hm)
        have HTK := Aside0.mk (show tot (os.take (k + 1)) = tot (os.take k) + ow o ∧ tot (os.take (k + 1)) ≤ 3000 ∧ ow o ≤ 3000 from by omega)
        clear htk htl hoe ho hm
        obtain ⟨m2, r2, hP⟩ : ∃ m2 r2, doP m o.at_ o.c = (m2, r2) := ⟨_, _, rfl⟩
        have HDO := Aside0.mk (show ∀ wo : Ow, wo.rps.map (·.r) = o.rps.map (·.r) → ∀ gs : Nat, FunV Try.prog 13 #[.pointer (some ⟨gs, 0, none⟩), .int .i64 o.at_, .agg #[.int .i64 o.c.kind, o.e.b1, o.e.b2, o.e.b3, .int .i64 o.c.t.a, .int .i64 o.c.t.b, .int .i64 o.c.t.c, .int .i64 o.c.home, .slice wo.A wo.rps.length wo.ca, .slice wo.B o.c.wrs.length wo.cb, .int .i64 o.c.mn, .int .i64 o.c.til, .int .i64 o.c.ts, o.e.d1, o.e.d2, o.e.d3, o.e.d4, o.e.d5, o.e.d6, o.e.d7, o.e.d8, o.e.d9, o.e.d10, o.e.d11, o.e.d12, o.e.d13, o.e.d14, o.e.d15, o.e.d16, o.e.d17]] (CmAt wo.A wo.rps wo.B o.c.wrs) [shH gs m] (.agg #[.int .i64 r2.err, .int .i64 r2.ts, .int .i64 r2.t.a, .int .i64 r2.t.b, .int .i64 r2.t.c, .int .i64 r2.ver, .int .i64 r2.til, .int .i64 r2.job, .bool r2.new]) [shH gs m2] from by
          intro wo hwo gs
          have hlen : wo.rps.length = o.rps.length := by have := congrArg List.length hwo; rwa [List.length_map, List.length_map] at this
          have h := do_fun gs m (tot (os.take k)) HE.out.1 (by have := HTK.out; omega) o.at_ o.c o.e wo.A wo.ca wo.rps wo.B wo.cb (hwo.trans HOO.out.map) (do_sizes (by have := HTK.out.2.2; omega) hwo)
          rw [hP] at h
          exact h)
        have HP_ := Aside0.mk hP
        clear hP
        have HM2 := Aside0.mk (show Fit m2 (tot (os.take (k + 1))) ∧ Apart m2.lks ∧ SpOk m2 from by
          have e : m2 = (doP m o.at_ o.c).1 := by rw [HP_.out]
          rw [e, HTK.out.1]
          exact ⟨fit_op HE.out.1 HOO.out, apart_do HE.out.2.1 _ _, spok_do HE.out.2.2 _ _ HOO.out.spans⟩)
        go_wp2_with (first
          | ((with_reducible refine gate_dst (N := 24) rfl ?_); refine ev_loadA rfl 42 (.tmp 23) rfl (b := ad.add (k * 31)) (seg := [.int .i64 o.at_, .int .i64 o.c.kind, o.e.b1, o.e.b2, o.e.b3, .int .i64 o.c.t.a, .int .i64 o.c.t.b, .int .i64 o.c.t.c, .int .i64 o.c.home, .slice o.A o.rps.length o.ca, .slice o.B o.c.wrs.length o.cb, .int .i64 o.c.mn, .int .i64 o.c.til, .int .i64 o.c.ts, o.e.d1, o.e.d2, o.e.d3, o.e.d4, o.e.d5, o.e.d6, o.e.d7, o.e.d8, o.e.d9, o.e.d10, o.e.d11, o.e.d12, o.e.d13, o.e.d14, o.e.d15, o.e.d16, o.e.d17]) rfl Try.underlying42 rfl szShX42 (HCO.out _ _ HS) ?_)
          | ((with_reducible refine gate_dst (N := 5) rfl ?_); refine ev_box ?hg (N := 5) ?hd (cs := [.int .i64 0, .int .i64 0, .int .i64 0, .int .i64 0, .int .i64 0, .int .i64 0, .int .i64 0, .int .i64 0, .int .i64 0, .slice none 0 0, .slice none 0 0, .int .i64 0, .int .i64 0, .int .i64 0, .int .i64 0, .int .i64 0, .int .i64 0, .string ⟨#[]⟩, .string ⟨#[]⟩, .string ⟨#[]⟩, .string ⟨#[]⟩, .bool false, .int .i64 0, .int .i64 0, .int .i64 0, .string ⟨#[]⟩, .slice none 0 0, .int .i64 0, .int .i64 0, .string ⟨#[]⟩, .int .i64 0]) (t := 42) HS ?hr ?_; (case hd => rfl); (case hg => rfl); (case hr => first | (go_simp; done) | (go_simp; rfl)); intro g4 w5 HS_ hg_; clear hg_; clear HS; have HS : St w S w5 [HP.obj g4 42 [.int .i64 0, .int .i64 0, .int .i64 0, .int .i64 0, .int .i64 0, .int .i64 0, .int .i64 0, .int .i64 0, .int .i64 0, .slice none 0 0, .slice none 0 0, .int .i64 0, .int .i64 0, .int .i64 0, .int .i64 0, .int .i64 0, .int .i64 0, .string ⟨#[]⟩, .string ⟨#[]⟩, .string ⟨#[]⟩, .string ⟨#[]⟩, .bool false, .int .i64 0, .int .i64 0, .int .i64 0, .string ⟨#[]⟩, .slice none 0 0, .int .i64 0, .int .i64 0, .string ⟨#[]⟩, .int .i64 0], shH gs m] := HS_; clear HS_)
          | ((with_reducible refine gate_ (.store 42 (.tmp 5) (.tmp 24)) rfl ?_); refine ev_store2 rfl rfl 42 (.tmp 5) (.tmp 24) rfl [.int .i64 o.at_, .int .i64 o.c.kind, o.e.b1, o.e.b2, o.e.b3, .int .i64 o.c.t.a, .int .i64 o.c.t.b, .int .i64 o.c.t.c, .int .i64 o.c.home, .slice o.A o.rps.length o.ca, .slice o.B o.c.wrs.length o.cb, .int .i64 o.c.mn, .int .i64 o.c.til, .int .i64 o.c.ts, o.e.d1, o.e.d2, o.e.d3, o.e.d4, o.e.d5, o.e.d6, o.e.d7, o.e.d8, o.e.d9, o.e.d10, o.e.d11, o.e.d12, o.e.d13, o.e.d14, o.e.d15, o.e.d16, o.e.d17] HS (g := g4) (j := 0) rfl rfl (seg := [.int .i64 o.at_, .int .i64 o.c.kind, o.e.b1, o.e.b2, o.e.b3, .int .i64 o.c.t.a, .int .i64 o.c.t.b, .int .i64 o.c.t.c, .int .i64 o.c.home, .slice o.A o.rps.length o.ca, .slice o.B o.c.wrs.length o.cb, .int .i64 o.c.mn, .int .i64 o.c.til, .int .i64 o.c.ts, o.e.d1, o.e.d2, o.e.d3, o.e.d4, o.e.d5, o.e.d6, o.e.d7, o.e.d8, o.e.d9, o.e.d10, o.e.d11, o.e.d12, o.e.d13, o.e.d14, o.e.d15, o.e.d16, o.e.d17]) rfl ?ht (by first | rfl | assumption) ?hf ?he ?_; (case ht => exact szShX42); (case he => kernel_rfl); (case hf => first | (simp; done) | (simp [splice]; done)); intro w6 HS_; clear HS; have HS : St w S w6 [HP.obj g4 42 [.int .i64 o.at_, .int .i64 o.c.kind, o.e.b1, o.e.b2, o.e.b3, .int .i64 o.c.t.a, .int .i64 o.c.t.b, .int .i64 o.c.t.c, .int .i64 o.c.home, .slice o.A o.rps.length o.ca, .slice o.B o.c.wrs.length o.cb, .int .i64 o.c.mn, .int .i64 o.c.til, .int .i64 o.c.ts, o.e.d1, o.e.d2, o.e.d3, o.e.d4, o.e.d5, o.e.d6, o.e.d7, o.e.d8, o.e.d9, o.e.d10, o.e.d11, o.e.d12, o.e.d13, o.e.d14, o.e.d15, o.e.d16, o.e.d17], shH gs m] := HS_; clear HS_))
        replace HS := HS.drew
        refine start_ (n := 7) (S := fun w' => w'.cell? ⟨g4, 0, none⟩ = some (.int .i64 o.at_)) (ds := []) #[false, false, false, false, false, false, false] (by kernel_rfl) rfl rfl (HS.cell 0) (fun hHeld => ?_)
        refine pure_ (i := 0) (N := some 25) (v := ?_) (a' := ?_) #[true, false, false, false, false, false, false] rfl rfl (by kernel_rfl) (fun _ _ _ h => h) (Or.inl ⟨by rfl, ?_⟩) ?_ ?_
        rotate_left
        · intro w'
          go_simp
          with_reducible rfl
        rotate_left
        · simp only [Act.put, List.setIfInBounds_toArray, List.set_cons_zero, List.set_cons_succ, i64_w, i32_w]
          rfl
        refine pure_ (i := 1) (N := some 26) (v := ?_) (a' := ?_) #[true, true, false, false, false, false, false] rfl rfl (by kernel_rfl) (fun _ _ _ h => h) (Or.inl ⟨by rfl, ?_⟩) ?_ ?_
        rotate_left
        · intro w'
          go_simp
          with_reducible rfl
        rotate_left
        · simp only [Act.put, List.setIfInBounds_toArray, List.set_cons_zero, List.set_cons_succ, i64_w, i32_w]
          rfl
        refine pure_ (i := 3) (N := some 28) (v := ?_) (a' := ?_) #[true, true, false, true, false, false, false] rfl rfl (by kernel_rfl) (fun _ _ _ h => h) (Or.inl ⟨by rfl, ?_⟩) ?_ ?_
        rotate_left
        · intro w'
          go_simp
          with_reducible rfl
        rotate_left
        · simp only [Act.put, List.setIfInBounds_toArray, List.set_cons_zero, List.set_cons_succ, i64_w, i32_w]
          rfl
        refine take_ (i := 2) (N := some 27) (v := ?_) (a' := ?_) #[true, true, true, true, false, false, false] rfl rfl (by kernel_rfl) (fun _ _ _ h => h) (Or.inl ⟨by rfl, ?_⟩) hHeld ?_ ?_
        rotate_left
        · intro w' s0
          go_simp
          with_reducible rfl
        rotate_left
        · simp only [Act.put, List.setIfInBounds_toArray, List.set_cons_zero, List.set_cons_succ, i64_w, i32_w]
          rfl
        refine one_ (i := 4) (N := some 29) #[true, true, true, true, true, false, false] rfl rfl (by kernel_rfl) (by decide) (fun K hK => ?_)
        refine ev_load_step (by rfl) rfl 40 (.tmp 28) rfl (g := g4) (j := 1) (seg := [.int .i64 o.c.kind, o.e.b1, o.e.b2, o.e.b3, .int .i64 o.c.t.a, .int .i64 o.c.t.b, .int .i64 o.c.t.c, .int .i64 o.c.home, .slice o.A o.rps.length o.ca, .slice o.B o.c.wrs.length o.cb, .int .i64 o.c.mn, .int .i64 o.c.til, .int .i64 o.c.ts, o.e.d1, o.e.d2, o.e.d3, o.e.d4, o.e.d5, o.e.d6, o.e.d7, o.e.d8, o.e.d9, o.e.d10, o.e.d11, o.e.d12, o.e.d13, o.e.d14, o.e.d15, o.e.d16, o.e.d17]) (by rfl) Try.underlying40 rfl szShX40 (St.seg HS 1 _ ?hs) ?_
        case hs => kernel_rfl
        refine hK.out _ _ (HS.cell 0) (fun hHeld => ?_)
        clear hK K
        refine norm_ (a' := ?_) ?_ ?_
        rotate_left
        · show Act.put _ (some 29) _ = _
          simp only [Act.put, List.setIfInBounds_toArray, List.set_cons_zero, List.set_cons_succ, i64_w, i32_w]
          rfl
        refine one_ (i := 5) (N := some 30) #[true, true, true, true, true, true, false] rfl rfl (by kernel_rfl) (by decide) (fun K hK => ?_)
        refine goes_ Try.func14 (by kernel_rfl) rfl #[.agg #[.int .i64 o.c.kind, o.e.b1, o.e.b2, o.e.b3, .int .i64 o.c.t.a, .int .i64 o.c.t.b, .int .i64 o.c.t.c, .int .i64 o.c.home, .slice o.A o.rps.length o.ca, .slice o.B o.c.wrs.length o.cb, .int .i64 o.c.mn, .int .i64 o.c.til, .int .i64 o.c.ts, o.e.d1, o.e.d2, o.e.d3, o.e.d4, o.e.d5, o.e.d6, o.e.d7, o.e.d8, o.e.d9, o.e.d10, o.e.d11, o.e.d12, o.e.d13, o.e.d14, o.e.d15, o.e.d16, o.e.d17]] (by rfl) rfl rfl (by simp only [List.map_toArray, List.map_cons, List.map_nil]; rfl) ?_
        refine ((own_fun o.c o.e o.A o.ca o.rps o.B o.cb (ext_one HOO.out.one) ⟨HOO.out.r56, HOO.out.w40, HOO.out.s24⟩).call (F := [HP.obj g4 42 [.int .i64 o.at_, .int .i64 o.c.kind, o.e.b1, o.e.b2, o.e.b3, .int .i64 o.c.t.a, .int .i64 o.c.t.b, .int .i64 o.c.t.c, .int .i64 o.c.home, .slice o.A o.rps.length o.ca, .slice o.B o.c.wrs.length o.cb, .int .i64 o.c.mn, .int .i64 o.c.til, .int .i64 o.c.ts, o.e.d1, o.e.d2, o.e.d3, o.e.d4, o.e.d5, o.e.d6, o.e.d7, o.e.d8, o.e.d9, o.e.d10, o.e.d11, o.e.d12, o.e.d13, o.e.d14, o.e.d15, o.e.d16, o.e.d17], shH gs m]) HS (fun w_ _ e_ _ => HCM.out w_ e_)).mono ?_
        rintro e_ w9 ⟨v_, rfl, HS_⟩
        refine ⟨_, rfl, ?_⟩
        clear HS
        obtain ⟨wo, HS1_⟩ := St.ex_ HS_
        clear HS_
        obtain ⟨hwo_, HS_⟩ := St.and_ HS1_
        obtain ⟨rfl, hwo_⟩ := hwo_
        clear HS1_
        have HWwo := Aside0.mk hwo_
        clear hwo_
        have HS : St w S w9 [ownH wo o.c.wrs, HP.obj g4 42 [.int .i64 o.at_, .int .i64 o.c.kind, o.e.b1, o.e.b2, o.e.b3, .int .i64 o.c.t.a, .int .i64 o.c.t.b, .int .i64 o.c.t.c, .int .i64 o.c.home, .slice o.A o.rps.length o.ca, .slice o.B o.c.wrs.length o.cb, .int .i64 o.c.mn, .int .i64 o.c.til, .int .i64 o.c.ts, o.e.d1, o.e.d2, o.e.d3, o.e.d4, o.e.d5, o.e.d6, o.e.d7, o.e.d8, o.e.d9, o.e.d10, o.e.d11, o.e.d12, o.e.d13, o.e.d14, o.e.d15, o.e.d16, o.e.d17], shH gs m] := HS_
        clear HS_
        refine hK.out _ _ ((HS.mv 1).cell 0) (fun hHeld => ?_)
        clear hK K
        refine norm_ (a' := ?_) ?_ ?_
        rotate_left
        · show Act.put _ (some 30) _ = _
          simp only [Act.put, List.setIfInBounds_toArray, List.set_cons_zero, List.set_cons_succ, i64_w, i32_w]
          rfl
        refine one_ (i := 6) (N := some 31) #[true, true, true, true, true, true, true] rfl rfl (by kernel_rfl) (by decide) (fun K hK => ?_)
        refine goes_ Try.func13 (by kernel_rfl) rfl #[.pointer (some ⟨gs, 0, none⟩), .int .i64 o.at_, .agg #[.int .i64 o.c.kind, o.e.b1, o.e.b2, o.e.b3, .int .i64 o.c.t.a, .int .i64 o.c.t.b, .int .i64 o.c.t.c, .int .i64 o.c.home, .slice wo.A wo.rps.length wo.ca, .slice wo.B o.c.wrs.length wo.cb, .int .i64 o.c.mn, .int .i64 o.c.til, .int .i64 o.c.ts, o.e.d1, o.e.d2, o.e.d3, o.e.d4, o.e.d5, o.e.d6, o.e.d7, o.e.d8, o.e.d9, o.e.d10, o.e.d11, o.e.d12, o.e.d13, o.e.d14, o.e.d15, o.e.d16, o.e.d17]] (by rfl) rfl rfl (by simp only [List.map_toArray, List.map_cons, List.map_nil]; rfl) ?_
        refine ((HDO.out wo HWwo.out gs).call (F := [ownH wo o.c.wrs, HP.obj g4 42 [.int .i64 o.at_, .int .i64 o.c.kind, o.e.b1, o.e.b2, o.e.b3, .int .i64 o.c.t.a, .int .i64 o.c.t.b, .int .i64 o.c.t.c, .int .i64 o.c.home, .slice o.A o.rps.length o.ca, .slice o.B o.c.wrs.length o.cb, .int .i64 o.c.mn, .int .i64 o.c.til, .int .i64 o.c.ts, o.e.d1, o.e.d2, o.e.d3, o.e.d4, o.e.d5, o.e.d6, o.e.d7, o.e.d8, o.e.d9, o.e.d10, o.e.d11, o.e.d12, o.e.d13, o.e.d14, o.e.d15, o.e.d16, o.e.d17]]) (HS.mv 2) (fun w_ S_ _ hF_ => (let ⟨S1, h1⟩ := all_at hF_ 0 _ rfl; own_cm h1))).mono ?_
        rintro e_ w10 ⟨rfl, HS_⟩
        refine ⟨_, rfl, ?_⟩
        clear HS
        have HS : St w S w10 [shH gs m2, ownH wo o.c.wrs, HP.obj g4 42 [.int .i64 o.at_, .int .i64 o.c.kind, o.e.b1, o.e.b2, o.e.b3, .int .i64 o.c.t.a, .int .i64 o.c.t.b, .int .i64 o.c.t.c, .int .i64 o.c.home, .slice o.A o.rps.length o.ca, .slice o.B o.c.wrs.length o.cb, .int .i64 o.c.mn, .int .i64 o.c.til, .int .i64 o.c.ts, o.e.d1, o.e.d2, o.e.d3, o.e.d4, o.e.d5, o.e.d6, o.e.d7, o.e.d8, o.e.d9, o.e.d10, o.e.d11, o.e.d12, o.e.d13, o.e.d14, o.e.d15, o.e.d16, o.e.d17]] := HS_
        clear HS_
        refine hK.out _ _ ((HS.mv 2).cell 0) (fun hHeld => ?_)
        clear hK K
        refine norm_ (a' := ?_) ?_ ?_
        rotate_left
        · show Act.put _ (some 31) _ = _
          simp only [Act.put, List.setIfInBounds_toArray, List.set_cons_zero, List.set_cons_succ, i64_w, i32_w]
          rfl
        refine done_ (by kernel_rfl) ?_
        clear hHeld
        go_wp2_with fail
        refine ((locksH_fun gs m2 _ HM2.out.1 (by have := HTK.out; omega)).call (F := [ownH wo o.c.wrs, HP.obj g4 42 [.int .i64 o.at_, .int .i64 o.c.kind, o.e.b1, o.e.b2, o.e.b3, .int .i64 o.c.t.a, .int .i64 o.c.t.b, .int .i64 o.c.t.c, .int .i64 o.c.home, .slice o.A o.rps.length o.ca, .slice o.B o.c.wrs.length o.cb, .int .i64 o.c.mn, .int .i64 o.c.til, .int .i64 o.c.ts, o.e.d1, o.e.d2, o.e.d3, o.e.d4, o.e.d5, o.e.d6, o.e.d7, o.e.d8, o.e.d9, o.e.d10, o.e.d11, o.e.d12, o.e.d13, o.e.d14, o.e.d15, o.e.d16, o.e.d17]]) HS (fun _ _ _ _ => trivial)).mono ?_
        rintro e_ w11 ⟨v_, rfl, HS_⟩
        clear HS
        obtain ⟨lo, HS1_⟩ := St.ex_ HS_
        clear HS_
        obtain ⟨hlo, HS2_⟩ := St.and_ HS1_
        clear HS1_
        obtain ⟨rfl, hlo⟩ := hlo
        have HLO := Aside0.mk hlo
        clear hlo
        have HS_ := St.all_ HS2_
        clear HS2_
        have HS : St w S w11 [HP.row kLp 62 (.slice lo.A lo.ps.length lo.c) lo.ps, Sl.all (inn lo.ps), shH gs m2, ownH wo o.c.wrs, HP.obj g4 42 [.int .i64 o.at_, .int .i64 o.c.kind, o.e.b1, o.e.b2, o.e.b3, .int .i64 o.c.t.a, .int .i64 o.c.t.b, .int .i64 o.c.t.c, .int .i64 o.c.home, .slice o.A o.rps.length o.ca, .slice o.B o.c.wrs.length o.cb, .int .i64 o.c.mn, .int .i64 o.c.til, .int .i64 o.c.ts, o.e.d1, o.e.d2, o.e.d3, o.e.d4, o.e.d5, o.e.d6, o.e.d7, o.e.d8, o.e.d9, o.e.d10, o.e.d11, o.e.d12, o.e.d13, o.e.d14, o.e.d15, o.e.d16, o.e.d17]] := HS_
        clear HS_
        have hlol : lo.ps.length ≤ 3000 := by have h := congrArg List.length HLO.out; rw [List.length_map] at h; have := HM2.out.1.lks; have := HTK.out; omega
        go_wp2_with fail
        go_loopw [36] (fun v36 w' => ∃ ii : Nat, ii ≤ lo.ps.length ∧ v36 = .int .i64 ii ∧ St w S w' [shH gs m2, HP.row kLp 62 (.slice lo.A lo.ps.length lo.c) lo.ps, Sl.all (inn lo.ps)]) (fun v36 _ => lo.ps.length - (intOf v36).toNat)
        case atStart => exact ⟨0, Nat.zero_le _, rfl, (((((HS.out 3).out 3).mv 1).mv 1).mv 2)⟩
        case round =>
          clear HS
          obtain ⟨ii, hii, rfl, HS⟩ := hrel
          have hii0 : (0 : Int) ≤ (ii : Int) := by omega
          by_cases hiilt : ii < lo.ps.length
          · skip
            have hiiI : (ii : Int) < (lo.ps.length : Int) := by omega
            have hwii : IntKind.i64.wrap ((ii : Int) + 1) = ((ii + 1 : Nat) : Int) := by rw [IntWalk.i64_in _ (by omega)]; omega
            have hp : lo.ps[ii]? = some lo.ps[ii] := List.getElem?_eq_getElem hiilt
            have hm : lo.ps[ii] ∈ lo.ps := List.getElem_mem hiilt
            obtain ⟨p, hpe⟩ : ∃ p, lo.ps[ii] = p := ⟨_, rfl⟩
            rw [hpe] at hp hm
            obtain ⟨gl, cl_, ev⟩ := St.row_form (HS.mv 1) (by omega)
            have ev1 : lo.A = some ⟨gl, 0, none⟩ := by injection ev
            have HEV := Aside0.mk ev1
            clear ev ev1
            obtain ⟨l, u, v⟩ := p
            obtain ⟨A1, c1, A2, c2, hu_, -, -, hv_, -, -⟩ := sup_st (inn_sup lo.ps) (HS.mv 2) hm
            have hu2_ : u = .slice A1 l.sps.length c1 := hu_
            have hv2_ : v = .slice A2 l.wrs.length c2 := hv_
            clear hu_ hv_
            subst hu2_
            subst hv2_
            have HMii := Aside0.mk hm
            have HCi := Aside0.mk (fun (w' : World) (F : List HP) (h : St w S w' (HP.row kLp 62 (.slice (some ⟨gl, 0, none⟩) lo.ps.length lo.c) lo.ps :: F)) => (show w'.cell? ⟨gl, ii * 7, none⟩ = some (.int .i64 l.t.a) ∧ w'.cell? ⟨gl, ii * 7 + 1, none⟩ = some (.int .i64 l.t.b) ∧ w'.cell? ⟨gl, ii * 7 + 2, none⟩ = some (.int .i64 l.t.c) ∧ w'.cell? ⟨gl, ii * 7 + 3, none⟩ = some (.int .i64 l.home) ∧ w'.cell? ⟨gl, ii * 7 + 4, none⟩ = some (.int .i64 l.til) ∧ w'.cell? ⟨gl, ii * 7 + 5, none⟩ = some (.slice A1 l.sps.length c1) ∧ w'.cell? ⟨gl, ii * 7 + 6, none⟩ = some (.slice A2 l.wrs.length c2) from Lp_row h ii _ hp))
            have HLii := Aside0.mk (show m2.lks[ii]? = some l from by rw [← HLO.out, List.getElem?_map, hp]; rfl)
            clear hp hm hpe
            rw [HEV.out] at HS ⊢
            go_wp2_with fail
            go_loopw [41] (fun v41 w' => ∃ kk : Nat, kk ≤ lo.ps.length ∧ v41 = .int .i64 kk ∧ St w S w' [shH gs m2, HP.row kLp 62 (.slice (some ⟨gl, 0, none⟩) lo.ps.length lo.c) lo.ps, Sl.all (inn lo.ps)]) (fun v41 _ => lo.ps.length - (intOf v41).toNat)
            case atStart => exact ⟨0, Nat.zero_le _, rfl, HS⟩
            case round =>
              clear HS
              obtain ⟨kk, hkk, rfl, HS⟩ := hrel
              have hkk0 : (0 : Int) ≤ (kk : Int) := by omega
              by_cases hkklt : kk < lo.ps.length
              · skip
                have hkkI : (kk : Int) < (lo.ps.length : Int) := by omega
                have hwkk : IntKind.i64.wrap ((kk : Int) + 1) = ((kk + 1 : Nat) : Int) := by rw [IntWalk.i64_in _ (by omega)]; omega
                have hp : lo.ps[kk]? = some lo.ps[kk] := List.getElem?_eq_getElem hkklt
                have hm : lo.ps[kk] ∈ lo.ps := List.getElem_mem hkklt
                obtain ⟨p, hpe⟩ : ∃ p, lo.ps[kk] = p := ⟨_, rfl⟩
                rw [hpe] at hp hm
                obtain ⟨l2, u, v⟩ := p
                obtain ⟨B1, d1, B2, d2, hu_, -, -, hv_, -, -⟩ := sup_st (inn_sup lo.ps) (HS.mv 2) hm
                have hu2_ : u = .slice B1 l2.sps.length d1 := hu_
                have hv2_ : v = .slice B2 l2.wrs.length d2 := hv_
                clear hu_ hv_
                subst hu2_
                subst hv2_
                have HMkk := Aside0.mk hm
                have HCk := Aside0.mk (fun (w' : World) (F : List HP) (h : St w S w' (HP.row kLp 62 (.slice (some ⟨gl, 0, none⟩) lo.ps.length lo.c) lo.ps :: F)) => (show w'.cell? ⟨gl, kk * 7, none⟩ = some (.int .i64 l2.t.a) ∧ w'.cell? ⟨gl, kk * 7 + 1, none⟩ = some (.int .i64 l2.t.b) ∧ w'.cell? ⟨gl, kk * 7 + 2, none⟩ = some (.int .i64 l2.t.c) ∧ w'.cell? ⟨gl, kk * 7 + 3, none⟩ = some (.int .i64 l2.home) ∧ w'.cell? ⟨gl, kk * 7 + 4, none⟩ = some (.int .i64 l2.til) ∧ w'.cell? ⟨gl, kk * 7 + 5, none⟩ = some (.slice B1 l2.sps.length d1) ∧ w'.cell? ⟨gl, kk * 7 + 6, none⟩ = some (.slice B2 l2.wrs.length d2) from Lp_row h kk _ hp))
                have HLkk := Aside0.mk (show m2.lks[kk]? = some l2 from by rw [← HLO.out, List.getElem?_map, hp]; rfl)
                clear hp hm hpe
                obtain ⟨q12, q13, q14, q15, q16, q17, q18⟩ := HCi.out _ _ (HS.mv 1)
                go_wp2_with fail
                go_loopw [50] (fun v50 w' => ∃ qq : Nat, qq ≤ l.wrs.length ∧ v50 = .int .i64 qq ∧ St w S w' [shH gs m2, HP.row kLp 62 (.slice (some ⟨gl, 0, none⟩) lo.ps.length lo.c) lo.ps, Sl.all (inn lo.ps)]) (fun v50 _ => l.wrs.length - (intOf v50).toNat)
                case atStart => exact ⟨0, Nat.zero_le _, rfl, HS⟩
                case round =>
                  clear HS
                  obtain ⟨qq, hqq, rfl, HS⟩ := hrel
                  have hqq0 : (0 : Int) ≤ (qq : Int) := by omega
                  by_cases hqqlt : qq < l.wrs.length
                  · skip
                    have hqqI : (qq : Int) < (l.wrs.length : Int) := by omega
                    have hwn : l.wrs.length ≤ 100000 := by
                      have h1 := HM2.out.1.pot
                      have h2 := lw_mem (List.mem_of_getElem? HLii.out)
                      have h3 := HTK.out
                      omega
                    have hwqq : IntKind.i64.wrap ((qq : Int) + 1) = ((qq + 1 : Nat) : Int) := by rw [IntWalk.i64_in _ (by omega)]; omega
                    have hp : l.wrs[qq]? = some l.wrs[qq] := List.getElem?_eq_getElem hqqlt
                    have hm : l.wrs[qq] ∈ l.wrs := List.getElem_mem hqqlt
                    obtain ⟨y, hpe⟩ : ∃ y, l.wrs[qq] = y := ⟨_, rfl⟩
                    rw [hpe] at hp hm
                    have HCW := Aside0.mk (fun (w' : World) (F : List HP) (h : St w S w' (Sl.all (inn lo.ps) :: F)) => held_v (sup_st (inn_sup lo.ps) h HMii.out))
                    obtain ⟨aw, rfl, -⟩ := Wr_at (HCW.out _ _ (HS.mv 2)) qq _ hp
                    have HCX := Aside0.mk (fun (w' : World) (F : List HP) (h : St w S w' (Sl.all (inn lo.ps) :: F)) => (show w'.cell? (aw.add (qq * 3)) = some (.string y.key) ∧ w'.cell? ⟨(aw.add (qq * 3)).block, (aw.add (qq * 3)).off + 1, none⟩ = some (.string y.val) ∧ w'.cell? ⟨(aw.add (qq * 3)).block, (aw.add (qq * 3)).off + 2, none⟩ = some (.bool y.dead) from by obtain ⟨ad', e, q⟩ := Wr_at (HCW.out _ _ h) qq _ hp; obtain rfl := Option.some.inj e; exact q))
                    have HYM := Aside0.mk hm
                    have hln : l2.wrs.length ≤ 1000000 ∧ l2.sps.length ≤ 1000000 := by
                      have h1 := HM2.out.1.pot
                      have h2 := lw_mem (List.mem_of_getElem? HLkk.out)
                      have h4 := HM2.out.1.each _ (List.mem_of_getElem? HLkk.out)
                      have h3 := HTK.out
                      omega
                    have HLN := Aside0.mk hln
                    clear hp hm hpe hln
                    by_cases hik : ii = kk
                    · have hne : ((ii : Int) != (kk : Int)) = false := by simp [hik]
                      have HIK := Aside0.mk hik
                      clear hik
                      obtain ⟨q19, q20, q21⟩ := HCX.out _ _ (HS.mv 2)
                      go_wp2_with (first
                        | ((with_reducible refine gate_dst (N := 10) rfl ?_); refine ev_box ?hg (N := 10) ?hd (cs := [.string ⟨#[]⟩, .string ⟨#[]⟩, .bool false]) (t := 64) HS ?hr ?_; (case hd => rfl); (case hg => rfl); (case hr => first | (go_simp; done) | (go_simp; rfl)); intro g22 w23 HS_ hg_; clear hg_; clear HS q19 q20 q21; have HS : St w S w23 [HP.obj g22 64 [.string ⟨#[]⟩, .string ⟨#[]⟩, .bool false], shH gs m2, HP.row kLp 62 (.slice (some ⟨gl, 0, none⟩) lo.ps.length lo.c) lo.ps, Sl.all (inn lo.ps)] := HS_; clear HS_)
                        | ((with_reducible refine gate_ (.store 64 (.tmp 10) (.tmp 53)) rfl ?_); refine ev_store2 rfl rfl 64 (.tmp 10) (.tmp 53) rfl [.string y.key, .string y.val, .bool y.dead] HS (g := g22) (j := 0) rfl rfl (seg := [.string y.key, .string y.val, .bool y.dead]) rfl ?ht (by first | rfl | assumption) ?hf ?he ?_; (case ht => exact szShX64); (case he => kernel_rfl); (case hf => first | (simp; done) | (simp [splice]; done)); intro w24 HS_; clear HS; have HS : St w S w24 [HP.obj g22 64 [.string y.key, .string y.val, .bool y.dead], shH gs m2, HP.row kLp 62 (.slice (some ⟨gl, 0, none⟩) lo.ps.length lo.c) lo.ps, Sl.all (inn lo.ps)] := HS_; clear HS_))
                      replace HS := HS.drew
                      refine start_ (n := 21) (S := fun w' => True) (ds := []) #[false, false, false, false, false, false, false, false, false, false, false, false, false, false, false, false, false, false, false, false, false] (by kernel_rfl) rfl rfl trivial (fun hHeld => ?_)
                      refine pure_ (i := 0) (N := some 54) (v := ?_) (a' := ?_) #[true, false, false, false, false, false, false, false, false, false, false, false, false, false, false, false, false, false, false, false, false] rfl rfl (by kernel_rfl) (fun _ _ _ h => h) (Or.inl ⟨by rfl, ?_⟩) ?_ ?_
                      rotate_left
                      · intro w'
                        go_simp
                        with_reducible rfl
                      rotate_left
                      · simp only [Act.put, List.setIfInBounds_toArray, List.set_cons_zero, List.set_cons_succ, i64_w, i32_w]
                        rfl
                      refine pure_ (i := 1) (N := some 55) (v := ?_) (a' := ?_) #[true, true, false, false, false, false, false, false, false, false, false, false, false, false, false, false, false, false, false, false, false] rfl rfl (by kernel_rfl) (fun _ _ _ h => h) (Or.inl ⟨by rfl, ?_⟩) ?_ ?_
                      rotate_left
                      · intro w'
                        go_simp
                        with_reducible rfl
                      rotate_left
                      · simp only [Act.put, List.setIfInBounds_toArray, List.set_cons_zero, List.set_cons_succ, i64_w, i32_w]
                        rfl
                      refine pure_ (i := 2) (N := some 56) (v := ?_) (a' := ?_) #[true, true, true, false, false, false, false, false, false, false, false, false, false, false, false, false, false, false, false, false, false] rfl rfl (by kernel_rfl) (fun _ _ _ h => h) (Or.inl ⟨by rfl, ?_⟩) ?_ ?_
                      rotate_left
                      · intro w'
                        go_simp
                        with_reducible rfl
                      rotate_left
                      · simp only [Act.put, List.setIfInBounds_toArray, List.set_cons_zero, List.set_cons_succ, i64_w, i32_w]
                        rfl
                      refine pure_ (i := 3) (N := some 57) (v := ?_) (a' := ?_) #[true, true, true, true, false, false, false, false, false, false, false, false, false, false, false, false, false, false, false, false, false] rfl rfl (by kernel_rfl) (fun _ _ _ h => h) (Or.inl ⟨by rfl, ?_⟩) ?_ ?_
                      rotate_left
                      · intro w'
                        go_simp
                        with_reducible rfl
                      rotate_left
                      · simp only [Act.put, List.setIfInBounds_toArray, List.set_cons_zero, List.set_cons_succ, i64_w, i32_w]
                        rfl
                      refine pure_ (i := 4) (N := some 58) (v := undef) (a' := ?_) #[true, true, true, true, true, false, false, false, false, false, false, false, false, false, false, false, false, false, false, false, false] rfl rfl (by kernel_rfl) (fun _ _ _ h => h) (Or.inr ⟨by rfl, rfl⟩) ?_ ?_
                      rotate_left
                      · simp only [Act.put, List.setIfInBounds_toArray, List.set_cons_zero, List.set_cons_succ, i64_w, i32_w]
                        rfl
                      refine pure_ (i := 5) (N := some 59) (v := undef) (a' := ?_) #[true, true, true, true, true, true, false, false, false, false, false, false, false, false, false, false, false, false, false, false, false] rfl rfl (by kernel_rfl) (fun _ _ _ h => h) (Or.inr ⟨by rfl, rfl⟩) ?_ ?_
                      rotate_left
                      · simp only [Act.put, List.setIfInBounds_toArray, List.set_cons_zero, List.set_cons_succ, i64_w, i32_w]
                        rfl
                      refine pure_ (i := 6) (N := some 60) (v := undef) (a' := ?_) #[true, true, true, true, true, true, true, false, false, false, false, false, false, false, false, false, false, false, false, false, false] rfl rfl (by kernel_rfl) (fun _ _ _ h => h) (Or.inr ⟨by rfl, rfl⟩) ?_ ?_
                      rotate_left
                      · simp only [Act.put, List.setIfInBounds_toArray, List.set_cons_zero, List.set_cons_succ, i64_w, i32_w]
                        rfl
                      refine pure_ (i := 7) (N := some 61) (v := undef) (a' := ?_) #[true, true, true, true, true, true, true, true, false, false, false, false, false, false, false, false, false, false, false, false, false] rfl rfl (by kernel_rfl) (fun _ _ _ h => h) (Or.inr ⟨by rfl, rfl⟩) ?_ ?_
                      rotate_left
                      · simp only [Act.put, List.setIfInBounds_toArray, List.set_cons_zero, List.set_cons_succ, i64_w, i32_w]
                        rfl
                      refine pure_ (i := 8) (N := some 62) (v := undef) (a' := ?_) #[true, true, true, true, true, true, true, true, true, false, false, false, false, false, false, false, false, false, false, false, false] rfl rfl (by kernel_rfl) (fun _ _ _ h => h) (Or.inr ⟨by rfl, rfl⟩) ?_ ?_
                      rotate_left
                      · simp only [Act.put, List.setIfInBounds_toArray, List.set_cons_zero, List.set_cons_succ, i64_w, i32_w]
                        rfl
                      refine pure_ (i := 9) (N := some 63) (v := undef) (a' := ?_) #[true, true, true, true, true, true, true, true, true, true, false, false, false, false, false, false, false, false, false, false, false] rfl rfl (by kernel_rfl) (fun _ _ _ h => h) (Or.inr ⟨by rfl, rfl⟩) ?_ ?_
                      rotate_left
                      · simp only [Act.put, List.setIfInBounds_toArray, List.set_cons_zero, List.set_cons_succ, i64_w, i32_w]
                        rfl
                      refine pure_ (i := 10) (N := some 64) (v := undef) (a' := ?_) #[true, true, true, true, true, true, true, true, true, true, true, false, false, false, false, false, false, false, false, false, false] rfl rfl (by kernel_rfl) (fun _ _ _ h => h) (Or.inr ⟨by rfl, rfl⟩) ?_ ?_
                      rotate_left
                      · simp only [Act.put, List.setIfInBounds_toArray, List.set_cons_zero, List.set_cons_succ, i64_w, i32_w]
                        rfl
                      refine pure_ (i := 11) (N := some 65) (v := undef) (a' := ?_) #[true, true, true, true, true, true, true, true, true, true, true, true, false, false, false, false, false, false, false, false, false] rfl rfl (by kernel_rfl) (fun _ _ _ h => h) (Or.inr ⟨by rfl, rfl⟩) ?_ ?_
                      rotate_left
                      · simp only [Act.put, List.setIfInBounds_toArray, List.set_cons_zero, List.set_cons_succ, i64_w, i32_w]
                        rfl
                      refine pure_ (i := 12) (N := some 66) (v := undef) (a' := ?_) #[true, true, true, true, true, true, true, true, true, true, true, true, true, false, false, false, false, false, false, false, false] rfl rfl (by kernel_rfl) (fun _ _ _ h => h) (Or.inr ⟨by rfl, rfl⟩) ?_ ?_
                      rotate_left
                      · simp only [Act.put, List.setIfInBounds_toArray, List.set_cons_zero, List.set_cons_succ, i64_w, i32_w]
                        rfl
                      refine pure_ (i := 13) (N := some 67) (v := undef) (a' := ?_) #[true, true, true, true, true, true, true, true, true, true, true, true, true, true, false, false, false, false, false, false, false] rfl rfl (by kernel_rfl) (fun _ _ _ h => h) (Or.inr ⟨by rfl, rfl⟩) ?_ ?_
                      rotate_left
                      · simp only [Act.put, List.setIfInBounds_toArray, List.set_cons_zero, List.set_cons_succ, i64_w, i32_w]
                        rfl
                      refine pure_ (i := 14) (N := some 68) (v := undef) (a' := ?_) #[true, true, true, true, true, true, true, true, true, true, true, true, true, true, true, false, false, false, false, false, false] rfl rfl (by kernel_rfl) (fun _ _ _ h => h) (Or.inr ⟨by rfl, rfl⟩) ?_ ?_
                      rotate_left
                      · simp only [Act.put, List.setIfInBounds_toArray, List.set_cons_zero, List.set_cons_succ, i64_w, i32_w]
                        rfl
                      refine pure_ (i := 15) (N := some 69) (v := undef) (a' := ?_) #[true, true, true, true, true, true, true, true, true, true, true, true, true, true, true, true, false, false, false, false, false] rfl rfl (by kernel_rfl) (fun _ _ _ h => h) (Or.inr ⟨by rfl, rfl⟩) ?_ ?_
                      rotate_left
                      · simp only [Act.put, List.setIfInBounds_toArray, List.set_cons_zero, List.set_cons_succ, i64_w, i32_w]
                        rfl
                      refine pure_ (i := 16) (N := some 70) (v := undef) (a' := ?_) #[true, true, true, true, true, true, true, true, true, true, true, true, true, true, true, true, true, false, false, false, false] rfl rfl (by kernel_rfl) (fun _ _ _ h => h) (Or.inr ⟨by rfl, rfl⟩) ?_ ?_
                      rotate_left
                      · simp only [Act.put, List.setIfInBounds_toArray, List.set_cons_zero, List.set_cons_succ, i64_w, i32_w]
                        rfl
                      refine pure_ (i := 17) (N := some 71) (v := undef) (a' := ?_) #[true, true, true, true, true, true, true, true, true, true, true, true, true, true, true, true, true, true, false, false, false] rfl rfl (by kernel_rfl) (fun _ _ _ h => h) (Or.inr ⟨by rfl, rfl⟩) ?_ ?_
                      rotate_left
                      · simp only [Act.put, List.setIfInBounds_toArray, List.set_cons_zero, List.set_cons_succ, i64_w, i32_w]
                        rfl
                      refine pure_ (i := 18) (N := some 72) (v := undef) (a' := ?_) #[true, true, true, true, true, true, true, true, true, true, true, true, true, true, true, true, true, true, true, false, false] rfl rfl (by kernel_rfl) (fun _ _ _ h => h) (Or.inr ⟨by rfl, rfl⟩) ?_ ?_
                      rotate_left
                      · simp only [Act.put, List.setIfInBounds_toArray, List.set_cons_zero, List.set_cons_succ, i64_w, i32_w]
                        rfl
                      refine pure_ (i := 19) (N := some 73) (v := undef) (a' := ?_) #[true, true, true, true, true, true, true, true, true, true, true, true, true, true, true, true, true, true, true, true, false] rfl rfl (by kernel_rfl) (fun _ _ _ h => h) (Or.inr ⟨by rfl, rfl⟩) ?_ ?_
                      rotate_left
                      · simp only [Act.put, List.setIfInBounds_toArray, List.set_cons_zero, List.set_cons_succ, i64_w, i32_w]
                        rfl
                      refine pure_ (i := 20) (N := some 74) (v := ?_) (a' := ?_) #[true, true, true, true, true, true, true, true, true, true, true, true, true, true, true, true, true, true, true, true, true] rfl rfl (by kernel_rfl) (fun _ _ _ h => h) (Or.inl ⟨by rfl, ?_⟩) ?_ ?_
                      rotate_left
                      · intro w'
                        go_simp
                        with_reducible rfl
                      rotate_left
                      · simp only [Act.put, List.setIfInBounds_toArray, List.set_cons_zero, List.set_cons_succ, i64_w, i32_w]
                        rfl
                      refine done_ (by kernel_rfl) ?_
                      try clear hHeld
                      go_wp2_with fail
                      go_roundw
                      case rel => exact ⟨qq + 1, by omega, by go_num, (HS.out 0)⟩
                      case measure => simp [intOf]; omega
                    · have hne : ((ii : Int) != (kk : Int)) = true := by
                        have : ¬ (ii : Int) = (kk : Int) := fun e => hik (by omega)
                        simpa using this
                      have hap : meets y l2 = false := by
                        obtain ⟨h1, e1⟩ := List.getElem?_eq_some_iff.1 HLii.out
                        obtain ⟨h2, e2⟩ := List.getElem?_eq_some_iff.1 HLkk.out
                        have h := apart_at HM2.out.2.1 h1 h2 hik (w := y) (by rw [e1]; exact HYM.out)
                        rw [e2] at h
                        exact h
                      unfold meets at hap
                      rw [Bool.or_eq_false_iff] at hap
                      have HH := Aside0.mk (show FunV Try.prog 18 #[.agg #[.int .i64 l2.t.a, .int .i64 l2.t.b, .int .i64 l2.t.c, .int .i64 l2.home, .int .i64 l2.til, .slice B1 l2.sps.length d1, .slice B2 l2.wrs.length d2], .string y.key] (fun w => Kd.C kWr w B2 l2.wrs.length l2.wrs) [] (.bool false) [] from by
                        have h := holds_fun l2 B1 d1 B2 d2 y.key HLN.out.1
                        rw [hap.1] at h
                        exact h)
                      have HV := Aside0.mk (show FunV Try.prog 19 #[.agg #[.int .i64 l2.t.a, .int .i64 l2.t.b, .int .i64 l2.t.c, .int .i64 l2.home, .int .i64 l2.til, .slice B1 l2.sps.length d1, .slice B2 l2.wrs.length d2], .string y.key] (fun w => Kd.C kSp w B1 l2.sps.length l2.sps) [] (.bool false) [] from by
                        have h := covers_fun l2 B1 d1 B2 d2 y.key HLN.out.2 ⟨Nat.le_trans (HM2.out.1.kw _ (List.mem_of_getElem? HLii.out) y HYM.out) (by decide), HM2.out.2.2 _ (List.mem_of_getElem? HLkk.out)⟩
                        rw [hap.2] at h
                        exact h)
                      clear hap hik
                      obtain ⟨q25, q26, q27⟩ := HCX.out _ _ (HS.mv 2)
                      go_wp2_with (first
                        | ((with_reducible refine gate_dst (N := 10) rfl ?_); refine ev_box ?hg (N := 10) ?hd (cs := [.string ⟨#[]⟩, .string ⟨#[]⟩, .bool false]) (t := 64) HS ?hr ?_; (case hd => rfl); (case hg => rfl); (case hr => first | (go_simp; done) | (go_simp; rfl)); intro g28 w29 HS_ hg_; clear hg_; clear HS q25 q26 q27; have HS : St w S w29 [HP.obj g28 64 [.string ⟨#[]⟩, .string ⟨#[]⟩, .bool false], shH gs m2, HP.row kLp 62 (.slice (some ⟨gl, 0, none⟩) lo.ps.length lo.c) lo.ps, Sl.all (inn lo.ps)] := HS_; clear HS_)
                        | ((with_reducible refine gate_ (.store 64 (.tmp 10) (.tmp 53)) rfl ?_); refine ev_store2 rfl rfl 64 (.tmp 10) (.tmp 53) rfl [.string y.key, .string y.val, .bool y.dead] HS (g := g28) (j := 0) rfl rfl (seg := [.string y.key, .string y.val, .bool y.dead]) rfl ?ht (by first | rfl | assumption) ?hf ?he ?_; (case ht => exact szShX64); (case he => kernel_rfl); (case hf => first | (simp; done) | (simp [splice]; done)); intro w30 HS_; clear HS; have HS : St w S w30 [HP.obj g28 64 [.string y.key, .string y.val, .bool y.dead], shH gs m2, HP.row kLp 62 (.slice (some ⟨gl, 0, none⟩) lo.ps.length lo.c) lo.ps, Sl.all (inn lo.ps)] := HS_; clear HS_))
                      replace HS := HS.drew
                      refine start_ (n := 21) (S := fun w' => w'.cell? ⟨gl, kk * 7, none⟩ = some (.int .i64 l2.t.a) ∧ w'.cell? ⟨gl, kk * 7 + 1, none⟩ = some (.int .i64 l2.t.b) ∧ w'.cell? ⟨gl, kk * 7 + 2, none⟩ = some (.int .i64 l2.t.c) ∧ w'.cell? ⟨gl, kk * 7 + 3, none⟩ = some (.int .i64 l2.home) ∧ w'.cell? ⟨gl, kk * 7 + 4, none⟩ = some (.int .i64 l2.til) ∧ w'.cell? ⟨gl, kk * 7 + 5, none⟩ = some (.slice B1 l2.sps.length d1) ∧ w'.cell? ⟨gl, kk * 7 + 6, none⟩ = some (.slice B2 l2.wrs.length d2) ∧ w'.cell? ⟨g28, 0, none⟩ = some (.string y.key)) (ds := []) #[false, false, false, false, false, false, false, false, false, false, false, false, false, false, false, false, false, false, false, false, false] (by kernel_rfl) rfl rfl ⟨(HCk.out _ _ (HS.mv 2)).1, (HCk.out _ _ (HS.mv 2)).2.1, (HCk.out _ _ (HS.mv 2)).2.2.1, (HCk.out _ _ (HS.mv 2)).2.2.2.1, (HCk.out _ _ (HS.mv 2)).2.2.2.2.1, (HCk.out _ _ (HS.mv 2)).2.2.2.2.2.1, (HCk.out _ _ (HS.mv 2)).2.2.2.2.2.2, HS.cell 0⟩ (fun hHeld => ?_)
                      refine pure_ (i := 0) (N := some 54) (v := ?_) (a' := ?_) #[true, false, false, false, false, false, false, false, false, false, false, false, false, false, false, false, false, false, false, false, false] rfl rfl (by kernel_rfl) (fun _ _ _ h => h) (Or.inl ⟨by rfl, ?_⟩) ?_ ?_
                      rotate_left
                      · intro w'
                        go_simp
                        with_reducible rfl
                      rotate_left
                      · simp only [Act.put, List.setIfInBounds_toArray, List.set_cons_zero, List.set_cons_succ, i64_w, i32_w]
                        rfl
                      refine pure_ (i := 1) (N := some 55) (v := ?_) (a' := ?_) #[true, true, false, false, false, false, false, false, false, false, false, false, false, false, false, false, false, false, false, false, false] rfl rfl (by kernel_rfl) (fun _ _ _ h => h) (Or.inl ⟨by rfl, ?_⟩) ?_ ?_
                      rotate_left
                      · intro w'
                        go_simp
                        with_reducible rfl
                      rotate_left
                      · simp only [Act.put, List.setIfInBounds_toArray, List.set_cons_zero, List.set_cons_succ, i64_w, i32_w]
                        rfl
                      refine pure_ (i := 2) (N := some 56) (v := ?_) (a' := ?_) #[true, true, true, false, false, false, false, false, false, false, false, false, false, false, false, false, false, false, false, false, false] rfl rfl (by kernel_rfl) (fun _ _ _ h => h) (Or.inl ⟨by rfl, ?_⟩) ?_ ?_
                      rotate_left
                      · intro w'
                        go_simp
                        with_reducible rfl
                      rotate_left
                      · simp only [Act.put, List.setIfInBounds_toArray, List.set_cons_zero, List.set_cons_succ, i64_w, i32_w]
                        rfl
                      refine pure_ (i := 3) (N := some 57) (v := ?_) (a' := ?_) #[true, true, true, true, false, false, false, false, false, false, false, false, false, false, false, false, false, false, false, false, false] rfl rfl (by kernel_rfl) (fun _ _ _ h => h) (Or.inl ⟨by rfl, ?_⟩) ?_ ?_
                      rotate_left
                      · intro w'
                        go_simp
                        with_reducible rfl
                      rotate_left
                      · simp only [Act.put, List.setIfInBounds_toArray, List.set_cons_zero, List.set_cons_succ, i64_w, i32_w]
                        rfl
                      refine pure_ (i := 4) (N := some 58) (v := ?_) (a' := ?_) #[true, true, true, true, true, false, false, false, false, false, false, false, false, false, false, false, false, false, false, false, false] rfl rfl (by kernel_rfl) (fun _ _ _ h => h) (Or.inl ⟨by rfl, ?_⟩) ?_ ?_
                      rotate_left
                      · intro w'
                        go_simp
                        with_reducible rfl
                      rotate_left
                      · simp only [Act.put, List.setIfInBounds_toArray, List.set_cons_zero, List.set_cons_succ, i64_w, i32_w]
                        rfl
                      refine pure_ (i := 5) (N := some 59) (v := ?_) (a' := ?_) #[true, true, true, true, true, true, false, false, false, false, false, false, false, false, false, false, false, false, false, false, false] rfl rfl (by kernel_rfl) (fun _ _ _ h => h) (Or.inl ⟨by rfl, ?_⟩) ?_ ?_
                      rotate_left
                      · intro w'
                        go_simp
                        with_reducible rfl
                      rotate_left
                      · simp only [Act.put, List.setIfInBounds_toArray, List.set_cons_zero, List.set_cons_succ, i64_w, i32_w]
                        rfl
                      refine pure_ (i := 6) (N := some 60) (v := ?_) (a' := ?_) #[true, true, true, true, true, true, true, false, false, false, false, false, false, false, false, false, false, false, false, false, false] rfl rfl (by kernel_rfl) (fun _ _ _ h => h) (Or.inl ⟨by rfl, ?_⟩) ?_ ?_
                      rotate_left
                      · intro w'
                        go_simp
                        with_reducible rfl
                      rotate_left
                      · simp only [Act.put, List.setIfInBounds_toArray, List.set_cons_zero, List.set_cons_succ, i64_w, i32_w]
                        rfl
                      refine pure_ (i := 8) (N := some 62) (v := ?_) (a' := ?_) #[true, true, true, true, true, true, true, false, true, false, false, false, false, false, false, false, false, false, false, false, false] rfl rfl (by kernel_rfl) (fun _ _ _ h => h) (Or.inl ⟨by rfl, ?_⟩) ?_ ?_
                      rotate_left
                      · intro w'
                        go_simp
                        with_reducible rfl
                      rotate_left
                      · simp only [Act.put, List.setIfInBounds_toArray, List.set_cons_zero, List.set_cons_succ, i64_w, i32_w]
                        rfl
                      refine take_ (i := 7) (N := some 61) (v := ?_) (a' := ?_) #[true, true, true, true, true, true, true, true, true, false, false, false, false, false, false, false, false, false, false, false, false] rfl rfl (by kernel_rfl) (fun _ _ _ h => h) (Or.inl ⟨by rfl, ?_⟩) hHeld ?_ ?_
                      rotate_left
                      · rintro w' ⟨s0, s1, s2, s3, s4, s5, s6, s7⟩
                        go_simp
                        with_reducible rfl
                      rotate_left
                      · simp only [Act.put, List.setIfInBounds_toArray, List.set_cons_zero, List.set_cons_succ, i64_w, i32_w]
                        rfl
                      refine take_ (i := 9) (N := some 63) (v := ?_) (a' := ?_) #[true, true, true, true, true, true, true, true, true, true, false, false, false, false, false, false, false, false, false, false, false] rfl rfl (by kernel_rfl) (fun _ _ _ h => h) (Or.inl ⟨by rfl, ?_⟩) hHeld ?_ ?_
                      rotate_left
                      · rintro w' ⟨s0, s1, s2, s3, s4, s5, s6, s7⟩
                        go_simp
                        with_reducible rfl
                      rotate_left
                      · simp only [Act.put, List.setIfInBounds_toArray, List.set_cons_zero, List.set_cons_succ, i64_w, i32_w]
                        rfl
                      refine one_ (i := 10) (N := some 64) #[true, true, true, true, true, true, true, true, true, true, true, false, false, false, false, false, false, false, false, false, false] rfl rfl (by kernel_rfl) (by decide) (fun K hK => ?_)
                      refine goes_ Try.func18 (by kernel_rfl) rfl #[.agg #[.int .i64 l2.t.a, .int .i64 l2.t.b, .int .i64 l2.t.c, .int .i64 l2.home, .int .i64 l2.til, .slice B1 l2.sps.length d1, .slice B2 l2.wrs.length d2], .string y.key] (by rfl) rfl rfl (by simp only [List.map_toArray, List.map_cons, List.map_nil]; rfl) ?_
                      refine ((HH.out).call (F := [HP.obj g28 64 [.string y.key, .string y.val, .bool y.dead], shH gs m2, HP.row kLp 62 (.slice (some ⟨gl, 0, none⟩) lo.ps.length lo.c) lo.ps, Sl.all (inn lo.ps)]) HS (fun w_ S_ _ hF_ => held_v (sup_at (inn_sup lo.ps) hF_ 3 rfl HMkk.out))).mono ?_
                      rintro e_ w33 ⟨rfl, HS_⟩
                      refine ⟨_, rfl, ?_⟩
                      clear HS
                      have HS : St w S w33 [HP.obj g28 64 [.string y.key, .string y.val, .bool y.dead], shH gs m2, HP.row kLp 62 (.slice (some ⟨gl, 0, none⟩) lo.ps.length lo.c) lo.ps, Sl.all (inn lo.ps)] := HS_
                      clear HS_
                      refine hK.out _ _ ⟨(HCk.out _ _ (HS.mv 2)).1, (HCk.out _ _ (HS.mv 2)).2.1, (HCk.out _ _ (HS.mv 2)).2.2.1, (HCk.out _ _ (HS.mv 2)).2.2.2.1, (HCk.out _ _ (HS.mv 2)).2.2.2.2.1, (HCk.out _ _ (HS.mv 2)).2.2.2.2.2.1, (HCk.out _ _ (HS.mv 2)).2.2.2.2.2.2, HS.cell 0⟩ (fun hHeld => ?_)
                      clear hK K
                      refine norm_ (a' := ?_) ?_ ?_
                      rotate_left
                      · show Act.put _ (some 64) _ = _
                        simp only [Act.put, List.setIfInBounds_toArray, List.set_cons_zero, List.set_cons_succ, i64_w, i32_w]
                        rfl
                      refine pure_ (i := 11) (N := some 65) (v := ?_) (a' := ?_) #[true, true, true, true, true, true, true, true, true, true, true, true, false, false, false, false, false, false, false, false, false] rfl rfl (by kernel_rfl) (fun _ _ _ h => h) (Or.inl ⟨by rfl, ?_⟩) ?_ ?_
                      rotate_left
                      · intro w'
                        go_simp
                        with_reducible rfl
                      rotate_left
                      · simp only [Act.put, List.setIfInBounds_toArray, List.set_cons_zero, List.set_cons_succ, i64_w, i32_w]
                        rfl
                      refine pure_ (i := 12) (N := some 66) (v := ?_) (a' := ?_) #[true, true, true, true, true, true, true, true, true, true, true, true, true, false, false, false, false, false, false, false, false] rfl rfl (by kernel_rfl) (fun _ _ _ h => h) (Or.inl ⟨by rfl, ?_⟩) ?_ ?_
                      rotate_left
                      · intro w'
                        go_simp
                        with_reducible rfl
                      rotate_left
                      · simp only [Act.put, List.setIfInBounds_toArray, List.set_cons_zero, List.set_cons_succ, i64_w, i32_w]
                        rfl
                      refine pure_ (i := 13) (N := some 67) (v := ?_) (a' := ?_) #[true, true, true, true, true, true, true, true, true, true, true, true, true, true, false, false, false, false, false, false, false] rfl rfl (by kernel_rfl) (fun _ _ _ h => h) (Or.inl ⟨by rfl, ?_⟩) ?_ ?_
                      rotate_left
                      · intro w'
                        go_simp
                        with_reducible rfl
                      rotate_left
                      · simp only [Act.put, List.setIfInBounds_toArray, List.set_cons_zero, List.set_cons_succ, i64_w, i32_w]
                        rfl
                      refine pure_ (i := 14) (N := some 68) (v := ?_) (a' := ?_) #[true, true, true, true, true, true, true, true, true, true, true, true, true, true, true, false, false, false, false, false, false] rfl rfl (by kernel_rfl) (fun _ _ _ h => h) (Or.inl ⟨by rfl, ?_⟩) ?_ ?_
                      rotate_left
                      · intro w'
                        go_simp
                        with_reducible rfl
                      rotate_left
                      · simp only [Act.put, List.setIfInBounds_toArray, List.set_cons_zero, List.set_cons_succ, i64_w, i32_w]
                        rfl
                      refine pure_ (i := 16) (N := some 70) (v := ?_) (a' := ?_) #[true, true, true, true, true, true, true, true, true, true, true, true, true, true, true, false, true, false, false, false, false] rfl rfl (by kernel_rfl) (fun _ _ _ h => h) (Or.inl ⟨by rfl, ?_⟩) ?_ ?_
                      rotate_left
                      · intro w'
                        go_simp
                        with_reducible rfl
                      rotate_left
                      · simp only [Act.put, List.setIfInBounds_toArray, List.set_cons_zero, List.set_cons_succ, i64_w, i32_w]
                        rfl
                      refine take_ (i := 15) (N := some 69) (v := ?_) (a' := ?_) #[true, true, true, true, true, true, true, true, true, true, true, true, true, true, true, true, true, false, false, false, false] rfl rfl (by kernel_rfl) (fun _ _ _ h => h) (Or.inl ⟨by rfl, ?_⟩) hHeld ?_ ?_
                      rotate_left
                      · rintro w' ⟨s0, s1, s2, s3, s4, s5, s6, s7⟩
                        go_simp
                        with_reducible rfl
                      rotate_left
                      · simp only [Act.put, List.setIfInBounds_toArray, List.set_cons_zero, List.set_cons_succ, i64_w, i32_w]
                        rfl
                      refine take_ (i := 17) (N := some 71) (v := ?_) (a' := ?_) #[true, true, true, true, true, true, true, true, true, true, true, true, true, true, true, true, true, true, false, false, false] rfl rfl (by kernel_rfl) (fun _ _ _ h => h) (Or.inl ⟨by rfl, ?_⟩) hHeld ?_ ?_
                      rotate_left
                      · rintro w' ⟨s0, s1, s2, s3, s4, s5, s6, s7⟩
                        go_simp
                        with_reducible rfl
                      rotate_left
                      · simp only [Act.put, List.setIfInBounds_toArray, List.set_cons_zero, List.set_cons_succ, i64_w, i32_w]
                        rfl
                      refine one_ (i := 18) (N := some 72) #[true, true, true, true, true, true, true, true, true, true, true, true, true, true, true, true, true, true, true, false, false] rfl rfl (by kernel_rfl) (by decide) (fun K hK => ?_)
                      refine goes_ Try.func19 (by kernel_rfl) rfl #[.agg #[.int .i64 l2.t.a, .int .i64 l2.t.b, .int .i64 l2.t.c, .int .i64 l2.home, .int .i64 l2.til, .slice B1 l2.sps.length d1, .slice B2 l2.wrs.length d2], .string y.key] (by rfl) rfl rfl (by simp only [List.map_toArray, List.map_cons, List.map_nil]; rfl) ?_
                      refine ((HV.out).call (F := [HP.obj g28 64 [.string y.key, .string y.val, .bool y.dead], shH gs m2, HP.row kLp 62 (.slice (some ⟨gl, 0, none⟩) lo.ps.length lo.c) lo.ps, Sl.all (inn lo.ps)]) HS (fun w_ S_ _ hF_ => held_u (sup_at (inn_sup lo.ps) hF_ 3 rfl HMkk.out))).mono ?_
                      rintro e_ w34 ⟨rfl, HS_⟩
                      refine ⟨_, rfl, ?_⟩
                      clear HS
                      have HS : St w S w34 [HP.obj g28 64 [.string y.key, .string y.val, .bool y.dead], shH gs m2, HP.row kLp 62 (.slice (some ⟨gl, 0, none⟩) lo.ps.length lo.c) lo.ps, Sl.all (inn lo.ps)] := HS_
                      clear HS_
                      refine hK.out _ _ ⟨(HCk.out _ _ (HS.mv 2)).1, (HCk.out _ _ (HS.mv 2)).2.1, (HCk.out _ _ (HS.mv 2)).2.2.1, (HCk.out _ _ (HS.mv 2)).2.2.2.1, (HCk.out _ _ (HS.mv 2)).2.2.2.2.1, (HCk.out _ _ (HS.mv 2)).2.2.2.2.2.1, (HCk.out _ _ (HS.mv 2)).2.2.2.2.2.2, HS.cell 0⟩ (fun hHeld => ?_)
                      clear hK K
                      refine norm_ (a' := ?_) ?_ ?_
                      rotate_left
                      · show Act.put _ (some 72) _ = _
                        simp only [Act.put, List.setIfInBounds_toArray, List.set_cons_zero, List.set_cons_succ, i64_w, i32_w]
                        rfl
                      refine pure_ (i := 19) (N := some 73) (v := ?_) (a' := ?_) #[true, true, true, true, true, true, true, true, true, true, true, true, true, true, true, true, true, true, true, true, false] rfl rfl (by kernel_rfl) (fun _ _ _ h => h) (Or.inl ⟨by rfl, ?_⟩) ?_ ?_
                      rotate_left
                      · intro w'
                        go_simp
                        with_reducible rfl
                      rotate_left
                      · simp only [Act.put, List.setIfInBounds_toArray, List.set_cons_zero, List.set_cons_succ, i64_w, i32_w]
                        rfl
                      refine pure_ (i := 20) (N := some 74) (v := ?_) (a' := ?_) #[true, true, true, true, true, true, true, true, true, true, true, true, true, true, true, true, true, true, true, true, true] rfl rfl (by kernel_rfl) (fun _ _ _ h => h) (Or.inl ⟨by rfl, ?_⟩) ?_ ?_
                      rotate_left
                      · intro w'
                        go_simp
                        with_reducible rfl
                      rotate_left
                      · simp only [Act.put, List.setIfInBounds_toArray, List.set_cons_zero, List.set_cons_succ, i64_w, i32_w]
                        rfl
                      refine done_ (by kernel_rfl) ?_
                      clear hHeld
                      go_wp2_with fail
                      go_roundw
                      case rel => exact ⟨qq + 1, by omega, by go_num, (HS.out 0)⟩
                      case measure => simp [intOf]; omega
                  · have hqqI : ¬ (qq : Int) < (l.wrs.length : Int) := by omega
                    go_wp2_with fail
                    go_roundw
                    case rel => exact ⟨kk + 1, by omega, by go_num, HS⟩
                    case measure => simp [intOf]; omega
              · have hkkI : ¬ (kk : Int) < (lo.ps.length : Int) := by omega
                go_wp2_with fail
                go_roundw
                case rel => exact ⟨ii + 1, by omega, by go_num, HS⟩
                case measure => simp [intOf]; omega
          · have hiiI : ¬ (ii : Int) < (lo.ps.length : Int) := by omega
            go_wp2_with fail
            go_roundw
            case rel => exact ⟨k + 1, m2, by omega, by go_num, HM2, ((HS.out 1).out 1)⟩
            case measure => simp [intOf]; omega
      · have hltI : ¬ (k : Int) < (os.length : Int) := by omega
        go_wp2_with fail
        go_ret
        exact ⟨rfl, (HS.out 0)⟩
  · skip
    go_enter Try.func4, Try.ntmps4
    go_wp2_with fail
    refine ((awake_fun).call (F := []) HS (fun _ _ _ _ => trivial)).mono ?_
    rintro e_ w1 ⟨rfl, HS_⟩
    clear HS
    have HS : St w S w1 [] := HS_
    clear HS_
    go_wp2_with fail
    refine ((HGR.out).call (F := []) HS (fun w_ _ e_ _ => HR2.out w_ e_)).mono ?_
    rintro e_ w2 ⟨rfl, HS_⟩
    clear HS
    have HS : St w S w2 [] := HS_
    clear HS_
    go_wp2_with fail
    refine ((awake_fun).call (F := []) HS (fun _ _ _ _ => trivial)).mono ?_
    rintro e_ w3 ⟨rfl, HS_⟩
    clear HS
    have HS : St w S w3 [] := HS_
    clear HS_
    go_wp2_with fail
    go_ret
    exact ⟨rfl, HS⟩
end Go.Proofs.Ytphenpncdhgdhaa.Shd
