/- The law ShardHolds, walked. -/
import Derived.Test.YtphenpncdhgdhaaShS
import Derived.Test.YtphenpncdhgdhaaShR
namespace Go.Proofs.Ytphenpncdhgdhaa.Shd
open Go.RowKit Go.Proofs.YtphenpncdhgdhaaW.PrintWords Go.Proofs.YtphenpncdhgdhaaW.PrintLast Go.Proofs.YtphenpncdhgdhaaW.PrintMore Go.Proofs.Ytphenpncdhgdhaa.Sl Go.Proofs.Ytphenpncdhgdhaa.Str Go.Proofs.Ytphenpncdhgdhaa.Ver
set_option linter.unusedVariables false
set_option linter.unusedSimpArgs false
theorem szShY40 : (Try.prog.info? 40).map (·.size) = some 30 := by kernel_rfl
theorem szShY42 : (Try.prog.info? 42).map (·.size) = some 31 := by kernel_rfl
theorem szShY44 : (Try.prog.info? 44).map (·.size) = some 9 := by kernel_rfl
theorem szShY51 : (Try.prog.info? 51).map (·.size) = some 3 := by kernel_rfl
set_option maxHeartbeats 4000000 in
set_option maxRecDepth 20000 in
theorem shardHolds_fun (A : Option Addr) (ca : Nat) (os : List OpS) (hok : ∀ o ∈ os, OpOk o) (ht : tot os ≤ 1048576) (p : Sp) (hp : p.a.size ≤ 140737488351232) (t : Td) (A2 : Option Addr) (ca2 : Nat) (os2 : List OpS) (hok2 : ∀ o ∈ os2, OpOk o) (ht2 : tot os2 ≤ 1048576) :
    FunV Try.prog 3 #[.slice A os.length ca, .agg #[.string p.a, .string p.b], .agg #[.int .i64 t.a, .int .i64 t.b, .int .i64 t.c], .slice A2 os2.length ca2] (fun w => ScrAt A os w ∧ ScrAt A2 os2 w) [] (.bool true) [] := by
  intro w S hS hR
  have HS := St.start hS
  have HR := Aside0.mk (fun (w' : World) (F : List HP) (h : St w S w' F) => hR w' h.ext)
  have HR2 := Aside0.mk hR
  have HOK := Aside0.mk hok
  have HTT := Aside0.mk ht
  have HOK2 := Aside0.mk hok2
  obtain ⟨gb, hgb⟩ : ∃ gb, greatB os = gb := ⟨_, rfl⟩
  obtain ⟨gb2, hgb2⟩ : ∃ gb, greatB os2 = gb := ⟨_, rfl⟩
  have HGR := Aside0.mk (show FunV Try.prog 11 #[.slice A os.length ca] (ScrAt A os) [] (.bool gb) [] from by rw [← hgb]; exact great_fun A ca os hok ht)
  have HGR2 := Aside0.mk (show FunV Try.prog 11 #[.slice A2 os2.length ca2] (ScrAt A2 os2) [] (.bool gb2) [] from by rw [← hgb2]; exact great_fun A2 ca2 os2 hok2 ht2)
  have HGB := Aside0.mk hgb
  have HGB2 := Aside0.mk hgb2
  clear hS hR hok ht hgb hok2 ht2 hgb2
  have hu42 := Try.underlying42
  have hu40 := Try.underlying40
  have hu24 := Try.underlying24
  have hu26 := Try.underlying26
  have hu51 := Try.underlying51
  have hu53 := Try.underlying53
  have hu44 := Try.underlying44
  have hu55 := Try.underlying55
  have hus42 := Try.underlying22
  have hus51 := Try.underlying47
  have hus53 := Try.underlying49
  have hus55 := Try.underlying31
  cases gb
  · cases gb2
    · have HG3 := great_no HGB.out
      have hos := HG3.2
      have htot := HG3.1
      have HG4 := great_no HGB2.out
      have hos2 := HG4.2
      have htot2 := HG4.1
      clear HG3 HG4
      go_enter Try.func3, Try.ntmps3
      go_wp2_with (first
        | ((with_reducible refine gate_dst (N := 5) rfl ?_); refine ev_box ?hg (N := 5) ?hd (cs := [.string p.a, .string p.b]) (t := 24) HS ?hr ?_; (case hd => rfl); (case hg => rfl); (case hr => first | (go_simp; done) | (go_simp; rfl)); intro g1 w2 HS_ hg_; clear hg_; clear HS; have HS : St w S w2 [HP.obj g1 24 [.string p.a, .string p.b]] := HS_; clear HS_)
        | ((with_reducible refine gate_dst (N := 6) rfl ?_); refine ev_box ?hg (N := 6) ?hd (cs := [.int .i64 t.a, .int .i64 t.b, .int .i64 t.c]) (t := 26) HS ?hr ?_; (case hd => rfl); (case hg => rfl); (case hr => first | (go_simp; done) | (go_simp; rfl)); intro g3 w4 HS_ hg_; clear hg_; clear HS; have HS : St w S w4 [HP.obj g3 26 [.int .i64 t.a, .int .i64 t.b, .int .i64 t.c], HP.obj g1 24 [.string p.a, .string p.b]] := HS_; clear HS_))
      refine ((awake_fun).call (F := [HP.obj g3 26 [.int .i64 t.a, .int .i64 t.b, .int .i64 t.c], HP.obj g1 24 [.string p.a, .string p.b]]) HS (fun _ _ _ _ => trivial)).mono ?_
      rintro e_ w5 ⟨rfl, HS_⟩
      clear HS
      have HS : St w S w5 [HP.obj g3 26 [.int .i64 t.a, .int .i64 t.b, .int .i64 t.c], HP.obj g1 24 [.string p.a, .string p.b]] := HS_
      clear HS_
      go_wp2_with fail
      refine ((HGR.out).call (F := [HP.obj g3 26 [.int .i64 t.a, .int .i64 t.b, .int .i64 t.c], HP.obj g1 24 [.string p.a, .string p.b]]) HS (fun w_ _ e_ _ => (HR2.out w_ e_).1)).mono ?_
      rintro e_ w6 ⟨rfl, HS_⟩
      clear HS
      have HS : St w S w6 [HP.obj g3 26 [.int .i64 t.a, .int .i64 t.b, .int .i64 t.c], HP.obj g1 24 [.string p.a, .string p.b]] := HS_
      clear HS_
      go_wp2_with fail
      refine ((HGR2.out).call (F := [HP.obj g3 26 [.int .i64 t.a, .int .i64 t.b, .int .i64 t.c], HP.obj g1 24 [.string p.a, .string p.b]]) HS (fun w_ _ e_ _ => (HR2.out w_ e_).2)).mono ?_
      rintro e_ w7 ⟨rfl, HS_⟩
      clear HS
      have HS : St w S w7 [HP.obj g3 26 [.int .i64 t.a, .int .i64 t.b, .int .i64 t.c], HP.obj g1 24 [.string p.a, .string p.b]] := HS_
      clear HS_
      go_wp2_with fail
      refine ((newSh_fun).call (F := [HP.obj g3 26 [.int .i64 t.a, .int .i64 t.b, .int .i64 t.c], HP.obj g1 24 [.string p.a, .string p.b]]) HS (fun _ _ _ _ => trivial)).mono ?_
      rintro e_ w8 ⟨v_, rfl, HS_⟩
      clear HS
      obtain ⟨gs, HS1_⟩ := St.ex_ HS_
      clear HS_
      obtain ⟨rfl, HS_⟩ := St.and_ HS1_
      clear HS1_
      have HS : St w S w8 [shH gs sh0, HP.obj g3 26 [.int .i64 t.a, .int .i64 t.b, .int .i64 t.c], HP.obj g1 24 [.string p.a, .string p.b]] := HS_
      clear HS_
      go_wp2_with fail
      go_loopw [33] (fun v33 w' => ∃ (k : Nat) (m : Sh), k ≤ os.length ∧ v33 = .int .i64 k ∧ Aside0 (Fit m (tot (os.take k))) ∧ St w S w' [HP.obj g1 24 [.string p.a, .string p.b], HP.obj g3 26 [.int .i64 t.a, .int .i64 t.b, .int .i64 t.c], shH gs m]) (fun v33 _ => os.length - (intOf v33).toNat)
      case atStart => exact ⟨0, sh0, Nat.zero_le _, rfl, ⟨fit0⟩, ((HS.mv 1).mv 2)⟩
      case round =>
        clear HS
        obtain ⟨k, m, hk, rfl, HE, HS⟩ := hrel
        have hk0 : (0 : Int) ≤ (k : Int) := by omega
        by_cases hlt : k < os.length
        · skip
          have hltI : (k : Int) < (os.length : Int) := by omega
          have hwk : IntKind.i64.wrap ((k : Int) + 1) = ((k + 1 : Nat) : Int) := by rw [IntWalk.i64_in _ (by omega)]; omega
          have ho : os[k]? = some os[k] := List.getElem?_eq_getElem hlt
          have hm : os[k] ∈ os := List.getElem_mem hlt
          have htk := tot_take os k hlt
          have htl := tot_le os (k + 1)
          obtain ⟨o, hoe⟩ : ∃ o, os[k] = o := ⟨_, rfl⟩
          rw [hoe] at ho hm htk
          have HOO := Aside0.mk (HOK.out o hm)
          have hone : [.int .i64 o.at_, .int .i64 o.c.kind, o.e.b1, o.e.b2, o.e.b3, .int .i64 o.c.t.a, .int .i64 o.c.t.b, .int .i64 o.c.t.c, .int .i64 o.c.home, .slice o.A o.rps.length o.ca, .slice o.B o.c.wrs.length o.cb, .int .i64 o.c.mn, .int .i64 o.c.til, .int .i64 o.c.ts, o.e.d1, o.e.d2, o.e.d3, o.e.d4, o.e.d5, o.e.d6, o.e.d7, o.e.d8, o.e.d9, o.e.d10, o.e.d11, o.e.d12, o.e.d13, o.e.d14, o.e.d15, o.e.d16, o.e.d17].all (fun q => q.oneCell') = true := HOO.out.one
          obtain ⟨ad, rfl, -⟩ := op_at (HR.out _ _ HS).1 k o ho
          have HCO := Aside0.mk (fun (w' : World) (F : List HP) (h : St w S w' F) => (show ∀ j v, ([.int .i64 o.at_, .int .i64 o.c.kind, o.e.b1, o.e.b2, o.e.b3, .int .i64 o.c.t.a, .int .i64 o.c.t.b, .int .i64 o.c.t.c, .int .i64 o.c.home, .slice o.A o.rps.length o.ca, .slice o.B o.c.wrs.length o.cb, .int .i64 o.c.mn, .int .i64 o.c.til, .int .i64 o.c.ts, o.e.d1, o.e.d2, o.e.d3, o.e.d4, o.e.d5, o.e.d6, o.e.d7, o.e.d8, o.e.d9, o.e.d10, o.e.d11, o.e.d12, o.e.d13, o.e.d14, o.e.d15, o.e.d16, o.e.d17] : List Value)[j]? = some v → w'.cell? ((ad.add (k * 31)).add j) = some v from by obtain ⟨ad', e, q⟩ := op_at (HR.out _ _ h).1 k o ho; obtain rfl := Option.some.inj e; exact q))
          have HCM := Aside0.mk (fun (w' : World) (h : Ext w w' S) => (HR2.out w' h).1.2 o hm)
          have HTK := Aside0.mk (show tot (os.take (k + 1)) = tot (os.take k) + ow o ∧ tot (os.take (k + 1)) ≤ 3000 ∧ ow o ≤ 3000 from by omega)
          clear htk htl hoe ho hm
          obtain ⟨m2, r2, hP⟩ : ∃ m2 r2, doP m o.at_ o.c = (m2, r2) := ⟨_, _, rfl⟩
          have HDO := Aside0.mk (show ∀ wo : Ow, wo.rps.map (·.r) = o.rps.map (·.r) → ∀ gs : Nat, FunV Try.prog 13 #[.pointer (some ⟨gs, 0, none⟩), .int .i64 o.at_, .agg #[.int .i64 o.c.kind, o.e.b1, o.e.b2, o.e.b3, .int .i64 o.c.t.a, .int .i64 o.c.t.b, .int .i64 o.c.t.c, .int .i64 o.c.home, .slice wo.A wo.rps.length wo.ca, .slice wo.B o.c.wrs.length wo.cb, .int .i64 o.c.mn, .int .i64 o.c.til, .int .i64 o.c.ts, o.e.d1, o.e.d2, o.e.d3, o.e.d4, o.e.d5, o.e.d6, o.e.d7, o.e.d8, o.e.d9, o.e.d10, o.e.d11, o.e.d12, o.e.d13, o.e.d14, o.e.d15, o.e.d16, o.e.d17]] (CmAt wo.A wo.rps wo.B o.c.wrs) [shH gs m] (.agg #[.int .i64 r2.err, .int .i64 r2.ts, .int .i64 r2.t.a, .int .i64 r2.t.b, .int .i64 r2.t.c, .int .i64 r2.ver, .int .i64 r2.til, .int .i64 r2.job, .bool r2.new]) [shH gs m2] from by
            intro wo hwo gs
            have hlen : wo.rps.length = o.rps.length := by have := congrArg List.length hwo; rwa [List.length_map, List.length_map] at this
            have h := do_fun gs m (tot (os.take k)) HE.out (by have := HTK.out; omega) o.at_ o.c o.e wo.A wo.ca wo.rps wo.B wo.cb (hwo.trans HOO.out.map) (do_sizes (by have := HTK.out.2.2; omega) hwo)
            rw [hP] at h
            exact h)
          have HP_ := Aside0.mk hP
          clear hP
          have HM2 := Aside0.mk (show Fit m2 (tot (os.take (k + 1))) from by
            have e : m2 = (doP m o.at_ o.c).1 := by rw [HP_.out]
            rw [e, HTK.out.1]
            exact fit_op HE.out HOO.out)
          go_wp2_with (first
            | ((with_reducible refine gate_dst (N := 36) rfl ?_); refine ev_loadA rfl 42 (.tmp 35) rfl (b := ad.add (k * 31)) (seg := [.int .i64 o.at_, .int .i64 o.c.kind, o.e.b1, o.e.b2, o.e.b3, .int .i64 o.c.t.a, .int .i64 o.c.t.b, .int .i64 o.c.t.c, .int .i64 o.c.home, .slice o.A o.rps.length o.ca, .slice o.B o.c.wrs.length o.cb, .int .i64 o.c.mn, .int .i64 o.c.til, .int .i64 o.c.ts, o.e.d1, o.e.d2, o.e.d3, o.e.d4, o.e.d5, o.e.d6, o.e.d7, o.e.d8, o.e.d9, o.e.d10, o.e.d11, o.e.d12, o.e.d13, o.e.d14, o.e.d15, o.e.d16, o.e.d17]) rfl Try.underlying42 rfl szShY42 (HCO.out _ _ HS) ?_)
            | ((with_reducible refine gate_dst (N := 11) rfl ?_); refine ev_box ?hg (N := 11) ?hd (cs := [.int .i64 0, .int .i64 0, .int .i64 0, .int .i64 0, .int .i64 0, .int .i64 0, .int .i64 0, .int .i64 0, .int .i64 0, .slice none 0 0, .slice none 0 0, .int .i64 0, .int .i64 0, .int .i64 0, .int .i64 0, .int .i64 0, .int .i64 0, .string ⟨#[]⟩, .string ⟨#[]⟩, .string ⟨#[]⟩, .string ⟨#[]⟩, .bool false, .int .i64 0, .int .i64 0, .int .i64 0, .string ⟨#[]⟩, .slice none 0 0, .int .i64 0, .int .i64 0, .string ⟨#[]⟩, .int .i64 0]) (t := 42) HS ?hr ?_; (case hd => rfl); (case hg => rfl); (case hr => first | (go_simp; done) | (go_simp; rfl)); intro g9 w10 HS_ hg_; clear hg_; clear HS; have HS : St w S w10 [HP.obj g9 42 [.int .i64 0, .int .i64 0, .int .i64 0, .int .i64 0, .int .i64 0, .int .i64 0, .int .i64 0, .int .i64 0, .int .i64 0, .slice none 0 0, .slice none 0 0, .int .i64 0, .int .i64 0, .int .i64 0, .int .i64 0, .int .i64 0, .int .i64 0, .string ⟨#[]⟩, .string ⟨#[]⟩, .string ⟨#[]⟩, .string ⟨#[]⟩, .bool false, .int .i64 0, .int .i64 0, .int .i64 0, .string ⟨#[]⟩, .slice none 0 0, .int .i64 0, .int .i64 0, .string ⟨#[]⟩, .int .i64 0], HP.obj g1 24 [.string p.a, .string p.b], HP.obj g3 26 [.int .i64 t.a, .int .i64 t.b, .int .i64 t.c], shH gs m] := HS_; clear HS_)
            | ((with_reducible refine gate_ (.store 42 (.tmp 11) (.tmp 36)) rfl ?_); refine ev_store2 rfl rfl 42 (.tmp 11) (.tmp 36) rfl [.int .i64 o.at_, .int .i64 o.c.kind, o.e.b1, o.e.b2, o.e.b3, .int .i64 o.c.t.a, .int .i64 o.c.t.b, .int .i64 o.c.t.c, .int .i64 o.c.home, .slice o.A o.rps.length o.ca, .slice o.B o.c.wrs.length o.cb, .int .i64 o.c.mn, .int .i64 o.c.til, .int .i64 o.c.ts, o.e.d1, o.e.d2, o.e.d3, o.e.d4, o.e.d5, o.e.d6, o.e.d7, o.e.d8, o.e.d9, o.e.d10, o.e.d11, o.e.d12, o.e.d13, o.e.d14, o.e.d15, o.e.d16, o.e.d17] HS (g := g9) (j := 0) rfl rfl (seg := [.int .i64 o.at_, .int .i64 o.c.kind, o.e.b1, o.e.b2, o.e.b3, .int .i64 o.c.t.a, .int .i64 o.c.t.b, .int .i64 o.c.t.c, .int .i64 o.c.home, .slice o.A o.rps.length o.ca, .slice o.B o.c.wrs.length o.cb, .int .i64 o.c.mn, .int .i64 o.c.til, .int .i64 o.c.ts, o.e.d1, o.e.d2, o.e.d3, o.e.d4, o.e.d5, o.e.d6, o.e.d7, o.e.d8, o.e.d9, o.e.d10, o.e.d11, o.e.d12, o.e.d13, o.e.d14, o.e.d15, o.e.d16, o.e.d17]) rfl ?ht (by first | rfl | assumption) ?hf ?he ?_; (case ht => exact szShY42); (case he => kernel_rfl); (case hf => first | (simp; done) | (simp [splice]; done)); intro w11 HS_; clear HS; have HS : St w S w11 [HP.obj g9 42 [.int .i64 o.at_, .int .i64 o.c.kind, o.e.b1, o.e.b2, o.e.b3, .int .i64 o.c.t.a, .int .i64 o.c.t.b, .int .i64 o.c.t.c, .int .i64 o.c.home, .slice o.A o.rps.length o.ca, .slice o.B o.c.wrs.length o.cb, .int .i64 o.c.mn, .int .i64 o.c.til, .int .i64 o.c.ts, o.e.d1, o.e.d2, o.e.d3, o.e.d4, o.e.d5, o.e.d6, o.e.d7, o.e.d8, o.e.d9, o.e.d10, o.e.d11, o.e.d12, o.e.d13, o.e.d14, o.e.d15, o.e.d16, o.e.d17], HP.obj g1 24 [.string p.a, .string p.b], HP.obj g3 26 [.int .i64 t.a, .int .i64 t.b, .int .i64 t.c], shH gs m] := HS_; clear HS_))
          replace HS := HS.drew
          refine start_ (n := 7) (S := fun w' => w'.cell? ⟨g9, 0, none⟩ = some (.int .i64 o.at_)) (ds := []) #[false, false, false, false, false, false, false] (by kernel_rfl) rfl rfl (HS.cell 0) (fun hHeld => ?_)
          refine pure_ (i := 0) (N := some 37) (v := ?_) (a' := ?_) #[true, false, false, false, false, false, false] rfl rfl (by kernel_rfl) (fun _ _ _ h => h) (Or.inl ⟨by rfl, ?_⟩) ?_ ?_
          rotate_left
          · intro w'
            go_simp
            with_reducible rfl
          rotate_left
          · simp only [Act.put, List.setIfInBounds_toArray, List.set_cons_zero, List.set_cons_succ, i64_w, i32_w]
            rfl
          refine pure_ (i := 1) (N := some 38) (v := ?_) (a' := ?_) #[true, true, false, false, false, false, false] rfl rfl (by kernel_rfl) (fun _ _ _ h => h) (Or.inl ⟨by rfl, ?_⟩) ?_ ?_
          rotate_left
          · intro w'
            go_simp
            with_reducible rfl
          rotate_left
          · simp only [Act.put, List.setIfInBounds_toArray, List.set_cons_zero, List.set_cons_succ, i64_w, i32_w]
            rfl
          refine pure_ (i := 3) (N := some 40) (v := ?_) (a' := ?_) #[true, true, false, true, false, false, false] rfl rfl (by kernel_rfl) (fun _ _ _ h => h) (Or.inl ⟨by rfl, ?_⟩) ?_ ?_
          rotate_left
          · intro w'
            go_simp
            with_reducible rfl
          rotate_left
          · simp only [Act.put, List.setIfInBounds_toArray, List.set_cons_zero, List.set_cons_succ, i64_w, i32_w]
            rfl
          refine take_ (i := 2) (N := some 39) (v := ?_) (a' := ?_) #[true, true, true, true, false, false, false] rfl rfl (by kernel_rfl) (fun _ _ _ h => h) (Or.inl ⟨by rfl, ?_⟩) hHeld ?_ ?_
          rotate_left
          · intro w' s0
            go_simp
            with_reducible rfl
          rotate_left
          · simp only [Act.put, List.setIfInBounds_toArray, List.set_cons_zero, List.set_cons_succ, i64_w, i32_w]
            rfl
          refine one_ (i := 4) (N := some 41) #[true, true, true, true, true, false, false] rfl rfl (by kernel_rfl) (by decide) (fun K hK => ?_)
          refine ev_load_step (by rfl) rfl 40 (.tmp 40) rfl (g := g9) (j := 1) (seg := [.int .i64 o.c.kind, o.e.b1, o.e.b2, o.e.b3, .int .i64 o.c.t.a, .int .i64 o.c.t.b, .int .i64 o.c.t.c, .int .i64 o.c.home, .slice o.A o.rps.length o.ca, .slice o.B o.c.wrs.length o.cb, .int .i64 o.c.mn, .int .i64 o.c.til, .int .i64 o.c.ts, o.e.d1, o.e.d2, o.e.d3, o.e.d4, o.e.d5, o.e.d6, o.e.d7, o.e.d8, o.e.d9, o.e.d10, o.e.d11, o.e.d12, o.e.d13, o.e.d14, o.e.d15, o.e.d16, o.e.d17]) (by rfl) Try.underlying40 rfl szShY40 (St.seg HS 1 _ ?hs) ?_
          case hs => kernel_rfl
          refine hK.out _ _ (HS.cell 0) (fun hHeld => ?_)
          clear hK K
          refine norm_ (a' := ?_) ?_ ?_
          rotate_left
          · show Act.put _ (some 41) _ = _
            simp only [Act.put, List.setIfInBounds_toArray, List.set_cons_zero, List.set_cons_succ, i64_w, i32_w]
            rfl
          refine one_ (i := 5) (N := some 42) #[true, true, true, true, true, true, false] rfl rfl (by kernel_rfl) (by decide) (fun K hK => ?_)
          refine goes_ Try.func14 (by kernel_rfl) rfl #[.agg #[.int .i64 o.c.kind, o.e.b1, o.e.b2, o.e.b3, .int .i64 o.c.t.a, .int .i64 o.c.t.b, .int .i64 o.c.t.c, .int .i64 o.c.home, .slice o.A o.rps.length o.ca, .slice o.B o.c.wrs.length o.cb, .int .i64 o.c.mn, .int .i64 o.c.til, .int .i64 o.c.ts, o.e.d1, o.e.d2, o.e.d3, o.e.d4, o.e.d5, o.e.d6, o.e.d7, o.e.d8, o.e.d9, o.e.d10, o.e.d11, o.e.d12, o.e.d13, o.e.d14, o.e.d15, o.e.d16, o.e.d17]] (by rfl) rfl rfl (by simp only [List.map_toArray, List.map_cons, List.map_nil]; rfl) ?_
          refine ((own_fun o.c o.e o.A o.ca o.rps o.B o.cb (ext_one HOO.out.one) ⟨HOO.out.r56, HOO.out.w40, HOO.out.s24⟩).call (F := [HP.obj g9 42 [.int .i64 o.at_, .int .i64 o.c.kind, o.e.b1, o.e.b2, o.e.b3, .int .i64 o.c.t.a, .int .i64 o.c.t.b, .int .i64 o.c.t.c, .int .i64 o.c.home, .slice o.A o.rps.length o.ca, .slice o.B o.c.wrs.length o.cb, .int .i64 o.c.mn, .int .i64 o.c.til, .int .i64 o.c.ts, o.e.d1, o.e.d2, o.e.d3, o.e.d4, o.e.d5, o.e.d6, o.e.d7, o.e.d8, o.e.d9, o.e.d10, o.e.d11, o.e.d12, o.e.d13, o.e.d14, o.e.d15, o.e.d16, o.e.d17], HP.obj g1 24 [.string p.a, .string p.b], HP.obj g3 26 [.int .i64 t.a, .int .i64 t.b, .int .i64 t.c], shH gs m]) HS (fun w_ _ e_ _ => HCM.out w_ e_)).mono ?_
          rintro e_ w14 ⟨v_, rfl, HS_⟩
          refine ⟨_, rfl, ?_⟩
          clear HS
          obtain ⟨wo, HS1_⟩ := St.ex_ HS_
          clear HS_
          obtain ⟨hwo_, HS_⟩ := St.and_ HS1_
          obtain ⟨rfl, hwo_⟩ := hwo_
          clear HS1_
          have HWwo := Aside0.mk hwo_
          clear hwo_
          have HS : St w S w14 [ownH wo o.c.wrs, HP.obj g9 42 [.int .i64 o.at_, .int .i64 o.c.kind, o.e.b1, o.e.b2, o.e.b3, .int .i64 o.c.t.a, .int .i64 o.c.t.b, .int .i64 o.c.t.c, .int .i64 o.c.home, .slice o.A o.rps.length o.ca, .slice o.B o.c.wrs.length o.cb, .int .i64 o.c.mn, .int .i64 o.c.til, .int .i64 o.c.ts, o.e.d1, o.e.d2, o.e.d3, o.e.d4, o.e.d5, o.e.d6, o.e.d7, o.e.d8, o.e.d9, o.e.d10, o.e.d11, o.e.d12, o.e.d13, o.e.d14, o.e.d15, o.e.d16, o.e.d17], HP.obj g1 24 [.string p.a, .string p.b], HP.obj g3 26 [.int .i64 t.a, .int .i64 t.b, .int .i64 t.c], shH gs m] := HS_
          clear HS_
          refine hK.out _ _ ((HS.mv 1).cell 0) (fun hHeld => ?_)
          clear hK K
          refine norm_ (a' := ?_) ?_ ?_
          rotate_left
          · show Act.put _ (some 42) _ = _
            simp only [Act.put, List.setIfInBounds_toArray, List.set_cons_zero, List.set_cons_succ, i64_w, i32_w]
            rfl
          refine one_ (i := 6) (N := some 43) #[true, true, true, true, true, true, true] rfl rfl (by kernel_rfl) (by decide) (fun K hK => ?_)
          refine goes_ Try.func13 (by kernel_rfl) rfl #[.pointer (some ⟨gs, 0, none⟩), .int .i64 o.at_, .agg #[.int .i64 o.c.kind, o.e.b1, o.e.b2, o.e.b3, .int .i64 o.c.t.a, .int .i64 o.c.t.b, .int .i64 o.c.t.c, .int .i64 o.c.home, .slice wo.A wo.rps.length wo.ca, .slice wo.B o.c.wrs.length wo.cb, .int .i64 o.c.mn, .int .i64 o.c.til, .int .i64 o.c.ts, o.e.d1, o.e.d2, o.e.d3, o.e.d4, o.e.d5, o.e.d6, o.e.d7, o.e.d8, o.e.d9, o.e.d10, o.e.d11, o.e.d12, o.e.d13, o.e.d14, o.e.d15, o.e.d16, o.e.d17]] (by rfl) rfl rfl (by simp only [List.map_toArray, List.map_cons, List.map_nil]; rfl) ?_
          refine ((HDO.out wo HWwo.out gs).call (F := [ownH wo o.c.wrs, HP.obj g9 42 [.int .i64 o.at_, .int .i64 o.c.kind, o.e.b1, o.e.b2, o.e.b3, .int .i64 o.c.t.a, .int .i64 o.c.t.b, .int .i64 o.c.t.c, .int .i64 o.c.home, .slice o.A o.rps.length o.ca, .slice o.B o.c.wrs.length o.cb, .int .i64 o.c.mn, .int .i64 o.c.til, .int .i64 o.c.ts, o.e.d1, o.e.d2, o.e.d3, o.e.d4, o.e.d5, o.e.d6, o.e.d7, o.e.d8, o.e.d9, o.e.d10, o.e.d11, o.e.d12, o.e.d13, o.e.d14, o.e.d15, o.e.d16, o.e.d17], HP.obj g1 24 [.string p.a, .string p.b], HP.obj g3 26 [.int .i64 t.a, .int .i64 t.b, .int .i64 t.c]]) (HS.mv 4) (fun w_ S_ _ hF_ => (let ⟨S1, h1⟩ := all_at hF_ 0 _ rfl; own_cm h1))).mono ?_
          rintro e_ w15 ⟨rfl, HS_⟩
          refine ⟨_, rfl, ?_⟩
          clear HS
          have HS : St w S w15 [shH gs m2, ownH wo o.c.wrs, HP.obj g9 42 [.int .i64 o.at_, .int .i64 o.c.kind, o.e.b1, o.e.b2, o.e.b3, .int .i64 o.c.t.a, .int .i64 o.c.t.b, .int .i64 o.c.t.c, .int .i64 o.c.home, .slice o.A o.rps.length o.ca, .slice o.B o.c.wrs.length o.cb, .int .i64 o.c.mn, .int .i64 o.c.til, .int .i64 o.c.ts, o.e.d1, o.e.d2, o.e.d3, o.e.d4, o.e.d5, o.e.d6, o.e.d7, o.e.d8, o.e.d9, o.e.d10, o.e.d11, o.e.d12, o.e.d13, o.e.d14, o.e.d15, o.e.d16, o.e.d17], HP.obj g1 24 [.string p.a, .string p.b], HP.obj g3 26 [.int .i64 t.a, .int .i64 t.b, .int .i64 t.c]] := HS_
          clear HS_
          refine hK.out _ _ ((HS.mv 2).cell 0) (fun hHeld => ?_)
          clear hK K
          refine norm_ (a' := ?_) ?_ ?_
          rotate_left
          · show Act.put _ (some 43) _ = _
            simp only [Act.put, List.setIfInBounds_toArray, List.set_cons_zero, List.set_cons_succ, i64_w, i32_w]
            rfl
          refine done_ (by kernel_rfl) ?_
          clear hHeld
          go_wp2_with fail
          go_roundw
          case rel => exact ⟨k + 1, m2, by omega, by go_num, HM2, ((((HS.out 1).out 1).mv 2).mv 2)⟩
          case measure => simp [intOf]; omega
        · have hltI : ¬ (k : Int) < (os.length : Int) := by omega
          have HF := Aside0.mk (show Fit m 3000 from by have h := HE.out; rw [show k = os.length by omega, List.take_length] at h; exact h.mono htot)
          clear HE hk hk0 hlt
          obtain ⟨hs, hhs⟩ : ∃ hs, span m.rows p.a p.b ever = hs := ⟨_, rfl⟩
          have HHS := Aside0.mk hhs
          have hhl : hs.length ≤ 3000 := by rw [← hhs]; exact Nat.le_trans (span_len _ _ _ _) HF.out.kept.len
          have HSP := Aside0.mk (show Fun Try.prog 15 #[.pointer (some ⟨gs, 0, none⟩), .agg #[.string p.a, .string p.b]] (fun _ => True) [shH gs m] (fun r => [HP.row kHt 51 r hs, shH gs m]) from by rw [← hhs]; exact spanH_fun gs m 3000 HF.out (by decide) p.a p.b)
          clear hhs
          have q16 := HS.cell 0
          have q17 := HS.cell 1
          go_wp2_with fail
          refine ((HSP.out).call (F := [HP.obj g1 24 [.string p.a, .string p.b], HP.obj g3 26 [.int .i64 t.a, .int .i64 t.b, .int .i64 t.c]]) (HS.mv 2) (fun _ _ _ _ => trivial)).mono ?_
          rintro e_ w19 ⟨v18, rfl, HS_⟩
          clear HS q16 q17
          obtain ⟨Ah, ch, rfl, -, -⟩ := St.row_C HS_
          have HS : St w S w19 [HP.row kHt 51 (.slice Ah hs.length ch) hs, shH gs m, HP.obj g1 24 [.string p.a, .string p.b], HP.obj g3 26 [.int .i64 t.a, .int .i64 t.b, .int .i64 t.c]] := HS_
          clear HS_
          go_wp2_with fail
          have HS := HS.nil_ kSg 53
          go_loopw [13, 50] (fun v13 v50 w' => ∃ (k : Nat) (acc : List Sg) (Aq : Option Addr) (cq : Nat), k ≤ hs.length ∧ v50 = .int .i64 k ∧ v13 = .slice Aq acc.length cq ∧ Aside0 (acc = (hs.take k).map stampOf) ∧ St w S w' [HP.row kSg 53 (.slice Aq acc.length cq) acc, HP.row kHt 51 (.slice Ah hs.length ch) hs, HP.obj g1 24 [.string p.a, .string p.b], HP.obj g3 26 [.int .i64 t.a, .int .i64 t.b, .int .i64 t.c], shH gs m]) (fun v13 v50 _ => hs.length - (intOf v50).toNat)
          case atStart => exact ⟨0, [], none, 0, Nat.zero_le _, rfl, rfl, ⟨rfl⟩, (((((HS.mv 2).mv 4).mv 4).mv 4).mv 4)⟩
          case round =>
            clear HS hltI
            obtain ⟨k, acc, Aq, cq, hk, rfl, rfl, HE, HS⟩ := hrel
            have hk0 : (0 : Int) ≤ (k : Int) := by omega
            have hal : acc.length ≤ 3000 := by rw [HE.out, List.length_map, List.length_take]; omega
            by_cases hlt : k < hs.length
            · skip
              have hltI : (k : Int) < (hs.length : Int) := by omega
              have hwk : IntKind.i64.wrap ((k : Int) + 1) = ((k + 1 : Nat) : Int) := by rw [IntWalk.i64_in _ (by omega)]; omega
              have htk : hs.take (k + 1) = hs.take k ++ [hs[k]] := List.take_succ_eq_append_getElem hlt
              have hx : hs[k]? = some hs[k] := List.getElem?_eq_getElem hlt
              obtain ⟨h, hxe⟩ : ∃ x, hs[k] = x := ⟨_, rfl⟩
              rw [hxe] at hx htk
              obtain ⟨gh, ch_, ev⟩ := St.row_form (HS.mv 1) (by omega)
              have ev1 : Ah = some ⟨gh, 0, none⟩ := by injection ev
              have HEV := Aside0.mk ev1
              rw [ev1] at HS ⊢
              clear ev ev1
              have HCH := Aside0.mk (fun (w' : World) (F : List HP) (hh : St w S w' (HP.row kHt 51 (.slice (some ⟨gh, 0, none⟩) hs.length ch) hs :: F)) => Ht_row hh k h hx)
              have HT := Aside0.mk (show acc ++ [(⟨h.key, h.ts⟩ : Sg)] = (hs.take (k + 1)).map stampOf from by rw [htk, List.map_append, ← HE.out]; rfl)
              clear htk hx hxe
              obtain ⟨q20, q21, q22⟩ := HCH.out _ _ (HS.mv 1)
              go_wp2_with (first
                | ((with_reducible refine gate_dst (N := 15) rfl ?_); refine ev_box ?hg (N := 15) ?hd (cs := [.string ⟨#[]⟩, .int .i64 0, .string ⟨#[]⟩]) (t := 51) HS ?hr ?_; (case hd => rfl); (case hg => rfl); (case hr => first | (go_simp; done) | (go_simp; rfl)); intro g23 w24 HS_ hg_; clear hg_; clear HS q20 q21 q22; have HS : St w S w24 [HP.obj g23 51 [.string ⟨#[]⟩, .int .i64 0, .string ⟨#[]⟩], HP.row kSg 53 (.slice Aq acc.length cq) acc, HP.row kHt 51 (.slice (some ⟨gh, 0, none⟩) hs.length ch) hs, HP.obj g1 24 [.string p.a, .string p.b], HP.obj g3 26 [.int .i64 t.a, .int .i64 t.b, .int .i64 t.c], shH gs m] := HS_; clear HS_)
                | ((with_reducible refine gate_ (.store 51 (.tmp 15) (.tmp 53)) rfl ?_); refine ev_store2 rfl rfl 51 (.tmp 15) (.tmp 53) rfl [.string h.key, .int .i64 h.ts, .string h.val] HS (g := g23) (j := 0) rfl rfl (seg := [.string h.key, .int .i64 h.ts, .string h.val]) rfl ?ht (by first | rfl | assumption) ?hf ?he ?_; (case ht => exact szShY51); (case he => kernel_rfl); (case hf => first | (simp; done) | (simp [splice]; done)); intro w25 HS_; clear HS; have HS : St w S w25 [HP.obj g23 51 [.string h.key, .int .i64 h.ts, .string h.val], HP.row kSg 53 (.slice Aq acc.length cq) acc, HP.row kHt 51 (.slice (some ⟨gh, 0, none⟩) hs.length ch) hs, HP.obj g1 24 [.string p.a, .string p.b], HP.obj g3 26 [.int .i64 t.a, .int .i64 t.b, .int .i64 t.c], shH gs m] := HS_; clear HS_; have q26 := HS.cell 0; have q27 := HS.cell 1)
                | ((with_reducible refine gate_dst (N := 60) rfl ?_); refine ev_lit kSg 53 ?hg (N := 60) ?hd (xs := [(⟨h.key, h.ts⟩ : Sg)]) (inner := [.string h.key, .int .i64 h.ts]) HS ?hr ?hp (by simp) ?_; (case hd => rfl); (case hg => rfl); (case hr => first | (go_simp; done) | (go_simp; rfl)); (case hp => exact Sg_reps1 (⟨h.key, h.ts⟩ : Sg)); intro v29 w30 HS_; obtain ⟨gl31, cl32, hv_⟩ := St.row_form HS_ (by simp); have hv_ : v29 = .slice (some ⟨gl31, 0, none⟩) 1 cl32 := hv_; subst hv_; clear HS q26 q27; have HS : St w S w30 [HP.row kSg 53 (.slice (some ⟨gl31, 0, none⟩) 1 cl32) [(⟨h.key, h.ts⟩ : Sg)], HP.obj g23 51 [.string h.key, .int .i64 h.ts, .string h.val], HP.row kSg 53 (.slice Aq acc.length cq) acc, HP.row kHt 51 (.slice (some ⟨gh, 0, none⟩) hs.length ch) hs, HP.obj g1 24 [.string p.a, .string p.b], HP.obj g3 26 [.int .i64 t.a, .int .i64 t.b, .int .i64 t.c], shH gs m] := HS_; clear HS_)
                | ((with_reducible refine gate_dst (N := 61) rfl ?_); at_builtin; refine ev_rows kSg Sg_flat rfl (.tmp 54) (.tmp 60) 49 53 _ 24 rfl Try.underlying49 Sg_info rfl (by decide) (by decide) _ acc [(⟨h.key, h.ts⟩ : Sg)] _ _ rfl rfl (HS.mv 2) (St.row_reads ((HS.mv 2).mv 1)).2.2 (by simp only [List.length_cons, List.length_nil]; omega) ?_; intro v33 w34 HS_; have HS_ := (HS_).out 1; obtain ⟨A35, c36, hv_, -, -⟩ := St.row_C HS_; obtain ⟨n37, hn37⟩ : ∃ n, (acc ++ [(⟨h.key, h.ts⟩ : Sg)]).length = n := ⟨_, rfl⟩; rw [hn37] at hv_; have Ln37 := Aside0.mk hn37; clear hn37; subst hv_; clear HS; have HS : St w S w34 [HP.row kSg 53 (.slice A35 n37 c36) (acc ++ [(⟨h.key, h.ts⟩ : Sg)]), HP.obj g23 51 [.string h.key, .int .i64 h.ts, .string h.val], HP.row kHt 51 (.slice (some ⟨gh, 0, none⟩) hs.length ch) hs, HP.obj g1 24 [.string p.a, .string p.b], HP.obj g3 26 [.int .i64 t.a, .int .i64 t.b, .int .i64 t.c], shH gs m] := HS_; clear HS_))
              obtain rfl := Ln37.out
              go_roundw
              case rel => exact ⟨k + 1, _, A35, c36, by omega, by go_num, rfl, HT, (HS.out 1)⟩
              case measure => simp [intOf]; omega
            · have hltI : ¬ (k : Int) < (hs.length : Int) := by omega
              have HAC := Aside0.mk (show acc = hs.map stampOf from by rw [HE.out, show k = hs.length by omega, List.take_length])
              clear HE hk hk0 hlt
              obtain ⟨m2, r2, hP⟩ : ∃ m2 r2, doP m 1 (holdC t p.a p.b m.rows) = (m2, r2) := ⟨_, _, rfl⟩
              have HDH := Aside0.mk (show ∀ g c : Nat, FunV Try.prog 13 #[.pointer (some ⟨gs, 0, none⟩), .int .i64 1, .agg #[.int .i64 1, .int .i64 0, .int .i64 0, .int .i64 0, .int .i64 t.a, .int .i64 t.b, .int .i64 t.c, .int .i64 0, .slice (some ⟨g, 0, none⟩) 1 c, .slice none 0 0, .int .i64 0, .int .i64 0, .int .i64 0, .int .i64 0, .int .i64 0, .int .i64 0, .string ⟨#[]⟩, .string ⟨#[]⟩, .string ⟨#[]⟩, .string ⟨#[]⟩, .bool false, .int .i64 0, .int .i64 0, .int .i64 0, .string ⟨#[]⟩, .slice none 0 0, .int .i64 0, .int .i64 0, .string ⟨#[]⟩, .int .i64 0]] (CmAt (some ⟨g, 0, none⟩) [(⟨⟨⟨p.a, p.b⟩, acc⟩, .slice Aq acc.length cq⟩ : Rp)] none []) [shH gs m] (.agg #[.int .i64 r2.err, .int .i64 r2.ts, .int .i64 r2.t.a, .int .i64 r2.t.b, .int .i64 r2.t.c, .int .i64 r2.ver, .int .i64 r2.til, .int .i64 r2.job, .bool r2.new]) [shH gs m2] from by
                intro g c
                have h := do_fun gs m 3000 HF.out (by decide) 1 (holdC t p.a p.b m.rows) e0 (some ⟨g, 0, none⟩) c [(⟨⟨⟨p.a, p.b⟩, acc⟩, .slice Aq acc.length cq⟩ : Rp)] none 0 (by rw [HAC.out, ← HHS.out]; rfl) ⟨by simp, by simp [holdC], fun q hq => by rw [List.mem_singleton.1 hq]; exact Nat.le_trans hal (by decide)⟩
                rw [hP] at h
                exact h)
              have HM2 := Aside0.mk (show Fit m2 3002 ∧ (r2.new = true → Hld m2 t p.a p.b ∧ m2.rows = m.rows) ∧ (r2.new = false → r2.err ≠ 130) from by
                refine ⟨?_, fun h => ?_, fun h => ?_⟩
                · have h := fit_do HF.out 1 (holdC t p.a p.b m.rows) (fun w hw => by simp [holdC] at hw)
                  rw [hP] at h
                  exact h
                · have h' := hold_new (m := m) (t := t) (a := p.a) (b := p.b) 1 (by rw [hP]; exact h)
                  rw [hP] at h'
                  exact h'
                · have h' := hold_old (m := m) (t := t) (a := p.a) (b := p.b) 1 (by rw [hP]; exact h)
                  rw [hP] at h'
                  exact h')
              clear hP
              cases hnw : r2.new
              · have hne : (r2.err != 130) = true := by have := HM2.out.2.2 hnw; simpa using this
                rw [hnw] at HDH
                clear hnw
                have q38 := (HS.mv 3).cell 0
                have q39 := (HS.mv 3).cell 1
                have q40 := (HS.mv 3).cell 2
                have q41 := (HS.mv 2).cell 0
                have q42 := (HS.mv 2).cell 1
                go_wp2_with (first
                  | ((with_reducible refine gate_dst (N := 68) rfl ?_); refine ev_lit kRp 55 ?hg (N := 68) ?hd (xs := [(⟨⟨⟨p.a, p.b⟩, acc⟩, .slice Aq acc.length cq⟩ : Rp)]) (inner := [.string p.a, .string p.b, .slice Aq acc.length cq]) HS ?hr ?hp (by simp) ?_; (case hd => rfl); (case hg => rfl); (case hr => first | (go_simp; done) | (go_simp; rfl)); (case hp => exact Rp_reps1 _ rfl); intro v44 w45 HS_; obtain ⟨gl46, cl47, hv_⟩ := St.row_form HS_ (by simp); have hv_ : v44 = .slice (some ⟨gl46, 0, none⟩) 1 cl47 := hv_; subst hv_; clear HS q38 q39 q40 q41 q42; have HS : St w S w45 [HP.row kRp 55 (.slice (some ⟨gl46, 0, none⟩) 1 cl47) [(⟨⟨⟨p.a, p.b⟩, acc⟩, .slice Aq acc.length cq⟩ : Rp)], HP.row kSg 53 (.slice Aq acc.length cq) acc, HP.row kHt 51 (.slice Ah hs.length ch) hs, HP.obj g1 24 [.string p.a, .string p.b], HP.obj g3 26 [.int .i64 t.a, .int .i64 t.b, .int .i64 t.c], shH gs m] := HS_; clear HS_))
                refine ((HDH.out gl46 cl47).call (F := [HP.row kRp 55 (.slice (some ⟨gl46, 0, none⟩) 1 cl47) [(⟨⟨⟨p.a, p.b⟩, acc⟩, .slice Aq acc.length cq⟩ : Rp)], HP.row kSg 53 (.slice Aq acc.length cq) acc, HP.row kHt 51 (.slice Ah hs.length ch) hs, HP.obj g1 24 [.string p.a, .string p.b], HP.obj g3 26 [.int .i64 t.a, .int .i64 t.b, .int .i64 t.c]]) (HS.mv 5) (fun w_ S_ _ hF_ => ⟨row_at hF_ 0 rfl, fun q hq => by rw [List.mem_singleton.1 hq]; obtain ⟨S1, h1⟩ := all_at hF_ 1 _ rfl; exact ⟨Aq, cq, rfl, (Kd.R_reads' h1).2.1, (Kd.R_reads' h1).2.2⟩, Kd.C_nil _ _⟩)).mono ?_
                rintro e_ w48 ⟨rfl, HS_⟩
                clear HS
                have HS : St w S w48 [shH gs m2, HP.row kRp 55 (.slice (some ⟨gl46, 0, none⟩) 1 cl47) [(⟨⟨⟨p.a, p.b⟩, acc⟩, .slice Aq acc.length cq⟩ : Rp)], HP.row kSg 53 (.slice Aq acc.length cq) acc, HP.row kHt 51 (.slice Ah hs.length ch) hs, HP.obj g1 24 [.string p.a, .string p.b], HP.obj g3 26 [.int .i64 t.a, .int .i64 t.b, .int .i64 t.c]] := HS_
                clear HS_
                go_wp2_with (first
                  | ((with_reducible refine gate_dst (N := 16) rfl ?_); refine ev_box ?hg (N := 16) ?hd (cs := [.int .i64 0, .int .i64 0, .int .i64 0, .int .i64 0, .int .i64 0, .int .i64 0, .int .i64 0, .int .i64 0, .bool false]) (t := 44) HS ?hr ?_; (case hd => rfl); (case hg => rfl); (case hr => first | (go_simp; done) | (go_simp; rfl)); intro g49 w50 HS_ hg_; clear hg_; clear HS; have HS : St w S w50 [HP.obj g49 44 [.int .i64 0, .int .i64 0, .int .i64 0, .int .i64 0, .int .i64 0, .int .i64 0, .int .i64 0, .int .i64 0, .bool false], shH gs m2, HP.row kRp 55 (.slice (some ⟨gl46, 0, none⟩) 1 cl47) [(⟨⟨⟨p.a, p.b⟩, acc⟩, .slice Aq acc.length cq⟩ : Rp)], HP.row kSg 53 (.slice Aq acc.length cq) acc, HP.row kHt 51 (.slice Ah hs.length ch) hs, HP.obj g1 24 [.string p.a, .string p.b], HP.obj g3 26 [.int .i64 t.a, .int .i64 t.b, .int .i64 t.c]] := HS_; clear HS_)
                  | ((with_reducible refine gate_ (.store 44 (.tmp 16) (.tmp 70)) rfl ?_); refine ev_store2 rfl rfl 44 (.tmp 16) (.tmp 70) rfl [.int .i64 r2.err, .int .i64 r2.ts, .int .i64 r2.t.a, .int .i64 r2.t.b, .int .i64 r2.t.c, .int .i64 r2.ver, .int .i64 r2.til, .int .i64 r2.job, .bool false] HS (g := g49) (j := 0) rfl rfl (seg := [.int .i64 r2.err, .int .i64 r2.ts, .int .i64 r2.t.a, .int .i64 r2.t.b, .int .i64 r2.t.c, .int .i64 r2.ver, .int .i64 r2.til, .int .i64 r2.job, .bool false]) rfl ?ht (by first | rfl | assumption) ?hf ?he ?_; (case ht => exact szShY44); (case he => kernel_rfl); (case hf => first | (simp; done) | (simp [splice]; done)); intro w51 HS_; clear HS; have HS : St w S w51 [HP.obj g49 44 [.int .i64 r2.err, .int .i64 r2.ts, .int .i64 r2.t.a, .int .i64 r2.t.b, .int .i64 r2.t.c, .int .i64 r2.ver, .int .i64 r2.til, .int .i64 r2.job, .bool false], shH gs m2, HP.row kRp 55 (.slice (some ⟨gl46, 0, none⟩) 1 cl47) [(⟨⟨⟨p.a, p.b⟩, acc⟩, .slice Aq acc.length cq⟩ : Rp)], HP.row kSg 53 (.slice Aq acc.length cq) acc, HP.row kHt 51 (.slice Ah hs.length ch) hs, HP.obj g1 24 [.string p.a, .string p.b], HP.obj g3 26 [.int .i64 t.a, .int .i64 t.b, .int .i64 t.c]] := HS_; clear HS_; have q52 := HS.cell 8; have q53 := HS.cell 0))
                go_ret
                exact ⟨rfl, (((((((HS.out 0).out 0).out 0).out 0).out 0).out 0).out 0)⟩
              · have HLD := Aside0.mk (HM2.out.2.1 hnw)
                rw [hnw] at HDH
                clear hnw
                have q54 := (HS.mv 3).cell 0
                have q55 := (HS.mv 3).cell 1
                have q56 := (HS.mv 3).cell 2
                have q57 := (HS.mv 2).cell 0
                have q58 := (HS.mv 2).cell 1
                go_wp2_with (first
                  | ((with_reducible refine gate_dst (N := 68) rfl ?_); refine ev_lit kRp 55 ?hg (N := 68) ?hd (xs := [(⟨⟨⟨p.a, p.b⟩, acc⟩, .slice Aq acc.length cq⟩ : Rp)]) (inner := [.string p.a, .string p.b, .slice Aq acc.length cq]) HS ?hr ?hp (by simp) ?_; (case hd => rfl); (case hg => rfl); (case hr => first | (go_simp; done) | (go_simp; rfl)); (case hp => exact Rp_reps1 _ rfl); intro v60 w61 HS_; obtain ⟨gl62, cl63, hv_⟩ := St.row_form HS_ (by simp); have hv_ : v60 = .slice (some ⟨gl62, 0, none⟩) 1 cl63 := hv_; subst hv_; clear HS q54 q55 q56 q57 q58; have HS : St w S w61 [HP.row kRp 55 (.slice (some ⟨gl62, 0, none⟩) 1 cl63) [(⟨⟨⟨p.a, p.b⟩, acc⟩, .slice Aq acc.length cq⟩ : Rp)], HP.row kSg 53 (.slice Aq acc.length cq) acc, HP.row kHt 51 (.slice Ah hs.length ch) hs, HP.obj g1 24 [.string p.a, .string p.b], HP.obj g3 26 [.int .i64 t.a, .int .i64 t.b, .int .i64 t.c], shH gs m] := HS_; clear HS_))
                refine ((HDH.out gl62 cl63).call (F := [HP.row kRp 55 (.slice (some ⟨gl62, 0, none⟩) 1 cl63) [(⟨⟨⟨p.a, p.b⟩, acc⟩, .slice Aq acc.length cq⟩ : Rp)], HP.row kSg 53 (.slice Aq acc.length cq) acc, HP.row kHt 51 (.slice Ah hs.length ch) hs, HP.obj g1 24 [.string p.a, .string p.b], HP.obj g3 26 [.int .i64 t.a, .int .i64 t.b, .int .i64 t.c]]) (HS.mv 5) (fun w_ S_ _ hF_ => ⟨row_at hF_ 0 rfl, fun q hq => by rw [List.mem_singleton.1 hq]; obtain ⟨S1, h1⟩ := all_at hF_ 1 _ rfl; exact ⟨Aq, cq, rfl, (Kd.R_reads' h1).2.1, (Kd.R_reads' h1).2.2⟩, Kd.C_nil _ _⟩)).mono ?_
                rintro e_ w64 ⟨rfl, HS_⟩
                clear HS
                have HS : St w S w64 [shH gs m2, HP.row kRp 55 (.slice (some ⟨gl62, 0, none⟩) 1 cl63) [(⟨⟨⟨p.a, p.b⟩, acc⟩, .slice Aq acc.length cq⟩ : Rp)], HP.row kSg 53 (.slice Aq acc.length cq) acc, HP.row kHt 51 (.slice Ah hs.length ch) hs, HP.obj g1 24 [.string p.a, .string p.b], HP.obj g3 26 [.int .i64 t.a, .int .i64 t.b, .int .i64 t.c]] := HS_
                clear HS_
                go_wp2_with (first
                  | ((with_reducible refine gate_dst (N := 16) rfl ?_); refine ev_box ?hg (N := 16) ?hd (cs := [.int .i64 0, .int .i64 0, .int .i64 0, .int .i64 0, .int .i64 0, .int .i64 0, .int .i64 0, .int .i64 0, .bool false]) (t := 44) HS ?hr ?_; (case hd => rfl); (case hg => rfl); (case hr => first | (go_simp; done) | (go_simp; rfl)); intro g65 w66 HS_ hg_; clear hg_; clear HS; have HS : St w S w66 [HP.obj g65 44 [.int .i64 0, .int .i64 0, .int .i64 0, .int .i64 0, .int .i64 0, .int .i64 0, .int .i64 0, .int .i64 0, .bool false], shH gs m2, HP.row kRp 55 (.slice (some ⟨gl62, 0, none⟩) 1 cl63) [(⟨⟨⟨p.a, p.b⟩, acc⟩, .slice Aq acc.length cq⟩ : Rp)], HP.row kSg 53 (.slice Aq acc.length cq) acc, HP.row kHt 51 (.slice Ah hs.length ch) hs, HP.obj g1 24 [.string p.a, .string p.b], HP.obj g3 26 [.int .i64 t.a, .int .i64 t.b, .int .i64 t.c]] := HS_; clear HS_)
                  | ((with_reducible refine gate_ (.store 44 (.tmp 16) (.tmp 70)) rfl ?_); refine ev_store2 rfl rfl 44 (.tmp 16) (.tmp 70) rfl [.int .i64 r2.err, .int .i64 r2.ts, .int .i64 r2.t.a, .int .i64 r2.t.b, .int .i64 r2.t.c, .int .i64 r2.ver, .int .i64 r2.til, .int .i64 r2.job, .bool true] HS (g := g65) (j := 0) rfl rfl (seg := [.int .i64 r2.err, .int .i64 r2.ts, .int .i64 r2.t.a, .int .i64 r2.t.b, .int .i64 r2.t.c, .int .i64 r2.ver, .int .i64 r2.til, .int .i64 r2.job, .bool true]) rfl ?ht (by first | rfl | assumption) ?hf ?he ?_; (case ht => exact szShY44); (case he => kernel_rfl); (case hf => first | (simp; done) | (simp [splice]; done)); intro w67 HS_; clear HS; have HS : St w S w67 [HP.obj g65 44 [.int .i64 r2.err, .int .i64 r2.ts, .int .i64 r2.t.a, .int .i64 r2.t.b, .int .i64 r2.t.c, .int .i64 r2.ver, .int .i64 r2.til, .int .i64 r2.job, .bool true], shH gs m2, HP.row kRp 55 (.slice (some ⟨gl62, 0, none⟩) 1 cl63) [(⟨⟨⟨p.a, p.b⟩, acc⟩, .slice Aq acc.length cq⟩ : Rp)], HP.row kSg 53 (.slice Aq acc.length cq) acc, HP.row kHt 51 (.slice Ah hs.length ch) hs, HP.obj g1 24 [.string p.a, .string p.b], HP.obj g3 26 [.int .i64 t.a, .int .i64 t.b, .int .i64 t.c]] := HS_; clear HS_; have q68 := HS.cell 8))
                go_loopw [79] (fun v79 w' => ∃ (k : Nat) (m3 : Sh), k ≤ os2.length ∧ v79 = .int .i64 k ∧ Aside0 (Fit m3 (3002 + tot (os2.take k)) ∧ Hld m3 t p.a p.b ∧ span m3.rows p.a p.b ever = hs) ∧ St w S w' [HP.obj g1 24 [.string p.a, .string p.b], HP.obj g3 26 [.int .i64 t.a, .int .i64 t.b, .int .i64 t.c], HP.row kHt 51 (.slice Ah hs.length ch) hs, shH gs m3]) (fun v79 _ => os2.length - (intOf v79).toNat)
                case atStart => exact ⟨0, m2, Nat.zero_le _, rfl, ⟨HM2.out.1, HLD.out.1, by rw [HLD.out.2, HHS.out]⟩, ((((((HS.out 0).out 1).out 1).mv 1).mv 3).mv 3)⟩
                case round =>
                  clear HS hltI
                  obtain ⟨k, m3, hk, rfl, HE, HS⟩ := hrel
                  have hk0 : (0 : Int) ≤ (k : Int) := by omega
                  by_cases hlt : k < os2.length
                  · skip
                    have hltI : (k : Int) < (os2.length : Int) := by omega
                    have hwk : IntKind.i64.wrap ((k : Int) + 1) = ((k + 1 : Nat) : Int) := by rw [IntWalk.i64_in _ (by omega)]; omega
                    have ho : os2[k]? = some os2[k] := List.getElem?_eq_getElem hlt
                    have hm : os2[k] ∈ os2 := List.getElem_mem hlt
                    have htk := tot_take os2 k hlt
                    have htl := tot_le os2 (k + 1)
                    obtain ⟨o, hoe⟩ : ∃ o, os2[k] = o := ⟨_, rfl⟩
                    rw [hoe] at ho hm htk
                    have HOO := Aside0.mk (HOK2.out o hm)
                    have hone : [.int .i64 o.at_, .int .i64 o.c.kind, o.e.b1, o.e.b2, o.e.b3, .int .i64 o.c.t.a, .int .i64 o.c.t.b, .int .i64 o.c.t.c, .int .i64 o.c.home, .slice o.A o.rps.length o.ca, .slice o.B o.c.wrs.length o.cb, .int .i64 o.c.mn, .int .i64 o.c.til, .int .i64 o.c.ts, o.e.d1, o.e.d2, o.e.d3, o.e.d4, o.e.d5, o.e.d6, o.e.d7, o.e.d8, o.e.d9, o.e.d10, o.e.d11, o.e.d12, o.e.d13, o.e.d14, o.e.d15, o.e.d16, o.e.d17].all (fun q => q.oneCell') = true := HOO.out.one
                    obtain ⟨ad, rfl, -⟩ := op_at (HR.out _ _ HS).2 k o ho
                    have HCO := Aside0.mk (fun (w' : World) (F : List HP) (h : St w S w' F) => (show ∀ j v, ([.int .i64 o.at_, .int .i64 o.c.kind, o.e.b1, o.e.b2, o.e.b3, .int .i64 o.c.t.a, .int .i64 o.c.t.b, .int .i64 o.c.t.c, .int .i64 o.c.home, .slice o.A o.rps.length o.ca, .slice o.B o.c.wrs.length o.cb, .int .i64 o.c.mn, .int .i64 o.c.til, .int .i64 o.c.ts, o.e.d1, o.e.d2, o.e.d3, o.e.d4, o.e.d5, o.e.d6, o.e.d7, o.e.d8, o.e.d9, o.e.d10, o.e.d11, o.e.d12, o.e.d13, o.e.d14, o.e.d15, o.e.d16, o.e.d17] : List Value)[j]? = some v → w'.cell? ((ad.add (k * 31)).add j) = some v from by obtain ⟨ad', e, q⟩ := op_at (HR.out _ _ h).2 k o ho; obtain rfl := Option.some.inj e; exact q))
                    have HCM := Aside0.mk (fun (w' : World) (h : Ext w w' S) => (HR2.out w' h).2.2 o hm)
                    have HTK := Aside0.mk (show tot (os2.take (k + 1)) = tot (os2.take k) + ow o ∧ tot (os2.take (k + 1)) ≤ 3000 ∧ ow o ≤ 3000 from by omega)
                    clear htk htl hoe ho hm
                    obtain ⟨m4, r4, hP⟩ : ∃ m2 r2, doP m3 o.at_ o.c = (m2, r2) := ⟨_, _, rfl⟩
                    have HDO := Aside0.mk (show ∀ wo : Ow, wo.rps.map (·.r) = o.rps.map (·.r) → ∀ gs : Nat, FunV Try.prog 13 #[.pointer (some ⟨gs, 0, none⟩), .int .i64 o.at_, .agg #[.int .i64 o.c.kind, o.e.b1, o.e.b2, o.e.b3, .int .i64 o.c.t.a, .int .i64 o.c.t.b, .int .i64 o.c.t.c, .int .i64 o.c.home, .slice wo.A wo.rps.length wo.ca, .slice wo.B o.c.wrs.length wo.cb, .int .i64 o.c.mn, .int .i64 o.c.til, .int .i64 o.c.ts, o.e.d1, o.e.d2, o.e.d3, o.e.d4, o.e.d5, o.e.d6, o.e.d7, o.e.d8, o.e.d9, o.e.d10, o.e.d11, o.e.d12, o.e.d13, o.e.d14, o.e.d15, o.e.d16, o.e.d17]] (CmAt wo.A wo.rps wo.B o.c.wrs) [shH gs m3] (.agg #[.int .i64 r4.err, .int .i64 r4.ts, .int .i64 r4.t.a, .int .i64 r4.t.b, .int .i64 r4.t.c, .int .i64 r4.ver, .int .i64 r4.til, .int .i64 r4.job, .bool r4.new]) [shH gs m4] from by
                      intro wo hwo gs
                      have hlen : wo.rps.length = o.rps.length := by have := congrArg List.length hwo; rwa [List.length_map, List.length_map] at this
                      have h := do_fun gs m3 (3002 + tot (os2.take k)) HE.out.1 (by have := HTK.out; omega) o.at_ o.c o.e wo.A wo.ca wo.rps wo.B wo.cb (hwo.trans HOO.out.map) (do_sizes (by have := HTK.out.2.2; omega) hwo)
                      rw [hP] at h
                      exact h)
                    have HP_ := Aside0.mk hP
                    clear hP
                    have HT := Aside0.mk (fun w_ : World => tid_eq w_ o.c.t t)
                    have HM4 := Aside0.mk (show ¬ (o.c.kind = 4 ∧ o.c.t = t) → Fit m4 (3002 + tot (os2.take (k + 1))) ∧ Hld m4 t p.a p.b ∧ span m4.rows p.a p.b ever = hs from fun hno => by
                      have e : m4 = (doP m3 o.at_ o.c).1 := by rw [HP_.out]
                      have h := hld_do HE.out.1.rises HE.out.2.1 o.at_ o.c hno
                      rw [e, HTK.out.1, ← Nat.add_assoc]
                      exact ⟨fit_op HE.out.1 HOO.out, h.1, h.2.trans HE.out.2.2⟩)
                    by_cases h4 : o.c.kind = 4
                    · have h4b : (o.c.kind == 4) = true := beq_iff_eq.2 h4
                      by_cases htt : o.c.t = t
                      · have hT : ∀ w_ : World, (Op.equalIn 10000 26 (.agg #[.int .i64 o.c.t.a, .int .i64 o.c.t.b, .int .i64 o.c.t.c]) (.agg #[.int .i64 t.a, .int .i64 t.b, .int .i64 t.c])).run Try.prog w_ = .ok true w_ := fun w_ => (HT.out w_).trans (by rw [decide_eq_true htt])
                        have HTT_ := Aside0.mk htt
                        clear htt h4
                        go_wp2_with (first
                          | ((with_reducible refine gate_dst (N := 82) rfl ?_); refine ev_loadA rfl 42 (.tmp 81) rfl (b := ad.add (k * 31)) (seg := [.int .i64 o.at_, .int .i64 o.c.kind, o.e.b1, o.e.b2, o.e.b3, .int .i64 o.c.t.a, .int .i64 o.c.t.b, .int .i64 o.c.t.c, .int .i64 o.c.home, .slice o.A o.rps.length o.ca, .slice o.B o.c.wrs.length o.cb, .int .i64 o.c.mn, .int .i64 o.c.til, .int .i64 o.c.ts, o.e.d1, o.e.d2, o.e.d3, o.e.d4, o.e.d5, o.e.d6, o.e.d7, o.e.d8, o.e.d9, o.e.d10, o.e.d11, o.e.d12, o.e.d13, o.e.d14, o.e.d15, o.e.d16, o.e.d17]) rfl Try.underlying42 rfl szShY42 (HCO.out _ _ HS) ?_)
                          | ((with_reducible refine gate_dst (N := 18) rfl ?_); refine ev_box ?hg (N := 18) ?hd (cs := [.int .i64 0, .int .i64 0, .int .i64 0, .int .i64 0, .int .i64 0, .int .i64 0, .int .i64 0, .int .i64 0, .int .i64 0, .slice none 0 0, .slice none 0 0, .int .i64 0, .int .i64 0, .int .i64 0, .int .i64 0, .int .i64 0, .int .i64 0, .string ⟨#[]⟩, .string ⟨#[]⟩, .string ⟨#[]⟩, .string ⟨#[]⟩, .bool false, .int .i64 0, .int .i64 0, .int .i64 0, .string ⟨#[]⟩, .slice none 0 0, .int .i64 0, .int .i64 0, .string ⟨#[]⟩, .int .i64 0]) (t := 42) HS ?hr ?_; (case hd => rfl); (case hg => rfl); (case hr => first | (go_simp; done) | (go_simp; rfl)); intro g69 w70 HS_ hg_; clear hg_; clear HS; have HS : St w S w70 [HP.obj g69 42 [.int .i64 0, .int .i64 0, .int .i64 0, .int .i64 0, .int .i64 0, .int .i64 0, .int .i64 0, .int .i64 0, .int .i64 0, .slice none 0 0, .slice none 0 0, .int .i64 0, .int .i64 0, .int .i64 0, .int .i64 0, .int .i64 0, .int .i64 0, .string ⟨#[]⟩, .string ⟨#[]⟩, .string ⟨#[]⟩, .string ⟨#[]⟩, .bool false, .int .i64 0, .int .i64 0, .int .i64 0, .string ⟨#[]⟩, .slice none 0 0, .int .i64 0, .int .i64 0, .string ⟨#[]⟩, .int .i64 0], HP.obj g1 24 [.string p.a, .string p.b], HP.obj g3 26 [.int .i64 t.a, .int .i64 t.b, .int .i64 t.c], HP.row kHt 51 (.slice Ah hs.length ch) hs, shH gs m3] := HS_; clear HS_)
                          | ((with_reducible refine gate_ (.store 42 (.tmp 18) (.tmp 82)) rfl ?_); refine ev_store2 rfl rfl 42 (.tmp 18) (.tmp 82) rfl [.int .i64 o.at_, .int .i64 o.c.kind, o.e.b1, o.e.b2, o.e.b3, .int .i64 o.c.t.a, .int .i64 o.c.t.b, .int .i64 o.c.t.c, .int .i64 o.c.home, .slice o.A o.rps.length o.ca, .slice o.B o.c.wrs.length o.cb, .int .i64 o.c.mn, .int .i64 o.c.til, .int .i64 o.c.ts, o.e.d1, o.e.d2, o.e.d3, o.e.d4, o.e.d5, o.e.d6, o.e.d7, o.e.d8, o.e.d9, o.e.d10, o.e.d11, o.e.d12, o.e.d13, o.e.d14, o.e.d15, o.e.d16, o.e.d17] HS (g := g69) (j := 0) rfl rfl (seg := [.int .i64 o.at_, .int .i64 o.c.kind, o.e.b1, o.e.b2, o.e.b3, .int .i64 o.c.t.a, .int .i64 o.c.t.b, .int .i64 o.c.t.c, .int .i64 o.c.home, .slice o.A o.rps.length o.ca, .slice o.B o.c.wrs.length o.cb, .int .i64 o.c.mn, .int .i64 o.c.til, .int .i64 o.c.ts, o.e.d1, o.e.d2, o.e.d3, o.e.d4, o.e.d5, o.e.d6, o.e.d7, o.e.d8, o.e.d9, o.e.d10, o.e.d11, o.e.d12, o.e.d13, o.e.d14, o.e.d15, o.e.d16, o.e.d17]) rfl ?ht (by first | rfl | assumption) ?hf ?he ?_; (case ht => exact szShY42); (case he => kernel_rfl); (case hf => first | (simp; done) | (simp [splice]; done)); intro w71 HS_; clear HS; have HS : St w S w71 [HP.obj g69 42 [.int .i64 o.at_, .int .i64 o.c.kind, o.e.b1, o.e.b2, o.e.b3, .int .i64 o.c.t.a, .int .i64 o.c.t.b, .int .i64 o.c.t.c, .int .i64 o.c.home, .slice o.A o.rps.length o.ca, .slice o.B o.c.wrs.length o.cb, .int .i64 o.c.mn, .int .i64 o.c.til, .int .i64 o.c.ts, o.e.d1, o.e.d2, o.e.d3, o.e.d4, o.e.d5, o.e.d6, o.e.d7, o.e.d8, o.e.d9, o.e.d10, o.e.d11, o.e.d12, o.e.d13, o.e.d14, o.e.d15, o.e.d16, o.e.d17], HP.obj g1 24 [.string p.a, .string p.b], HP.obj g3 26 [.int .i64 t.a, .int .i64 t.b, .int .i64 t.c], HP.row kHt 51 (.slice Ah hs.length ch) hs, shH gs m3] := HS_; clear HS_; have q72 := HS.cell 1; have q73 := HS.cell 5; have q74 := HS.cell 6; have q75 := HS.cell 7; have q76 := (HS.mv 2).cell 0; have q77 := (HS.mv 2).cell 1; have q78 := (HS.mv 2).cell 2))
                        go_roundw
                        case rel => exact ⟨k + 1, m3, by omega, by go_num, ⟨HE.out.1.mono (by have := HTK.out.1; omega), HE.out.2⟩, (HS.out 0)⟩
                        case measure => simp [intOf]; omega
                      · have hT : ∀ w_ : World, (Op.equalIn 10000 26 (.agg #[.int .i64 o.c.t.a, .int .i64 o.c.t.b, .int .i64 o.c.t.c]) (.agg #[.int .i64 t.a, .int .i64 t.b, .int .i64 t.c])).run Try.prog w_ = .ok false w_ := fun w_ => (HT.out w_).trans (by rw [decide_eq_false htt])
                        have HX := Aside0.mk (HM4.out (fun h => htt h.2))
                        clear htt h4
                        go_wp2_with (first
                          | ((with_reducible refine gate_dst (N := 82) rfl ?_); refine ev_loadA rfl 42 (.tmp 81) rfl (b := ad.add (k * 31)) (seg := [.int .i64 o.at_, .int .i64 o.c.kind, o.e.b1, o.e.b2, o.e.b3, .int .i64 o.c.t.a, .int .i64 o.c.t.b, .int .i64 o.c.t.c, .int .i64 o.c.home, .slice o.A o.rps.length o.ca, .slice o.B o.c.wrs.length o.cb, .int .i64 o.c.mn, .int .i64 o.c.til, .int .i64 o.c.ts, o.e.d1, o.e.d2, o.e.d3, o.e.d4, o.e.d5, o.e.d6, o.e.d7, o.e.d8, o.e.d9, o.e.d10, o.e.d11, o.e.d12, o.e.d13, o.e.d14, o.e.d15, o.e.d16, o.e.d17]) rfl Try.underlying42 rfl szShY42 (HCO.out _ _ HS) ?_)
                          | ((with_reducible refine gate_dst (N := 18) rfl ?_); refine ev_box ?hg (N := 18) ?hd (cs := [.int .i64 0, .int .i64 0, .int .i64 0, .int .i64 0, .int .i64 0, .int .i64 0, .int .i64 0, .int .i64 0, .int .i64 0, .slice none 0 0, .slice none 0 0, .int .i64 0, .int .i64 0, .int .i64 0, .int .i64 0, .int .i64 0, .int .i64 0, .string ⟨#[]⟩, .string ⟨#[]⟩, .string ⟨#[]⟩, .string ⟨#[]⟩, .bool false, .int .i64 0, .int .i64 0, .int .i64 0, .string ⟨#[]⟩, .slice none 0 0, .int .i64 0, .int .i64 0, .string ⟨#[]⟩, .int .i64 0]) (t := 42) HS ?hr ?_; (case hd => rfl); (case hg => rfl); (case hr => first | (go_simp; done) | (go_simp; rfl)); intro g79 w80 HS_ hg_; clear hg_; clear HS; have HS : St w S w80 [HP.obj g79 42 [.int .i64 0, .int .i64 0, .int .i64 0, .int .i64 0, .int .i64 0, .int .i64 0, .int .i64 0, .int .i64 0, .int .i64 0, .slice none 0 0, .slice none 0 0, .int .i64 0, .int .i64 0, .int .i64 0, .int .i64 0, .int .i64 0, .int .i64 0, .string ⟨#[]⟩, .string ⟨#[]⟩, .string ⟨#[]⟩, .string ⟨#[]⟩, .bool false, .int .i64 0, .int .i64 0, .int .i64 0, .string ⟨#[]⟩, .slice none 0 0, .int .i64 0, .int .i64 0, .string ⟨#[]⟩, .int .i64 0], HP.obj g1 24 [.string p.a, .string p.b], HP.obj g3 26 [.int .i64 t.a, .int .i64 t.b, .int .i64 t.c], HP.row kHt 51 (.slice Ah hs.length ch) hs, shH gs m3] := HS_; clear HS_)
                          | ((with_reducible refine gate_ (.store 42 (.tmp 18) (.tmp 82)) rfl ?_); refine ev_store2 rfl rfl 42 (.tmp 18) (.tmp 82) rfl [.int .i64 o.at_, .int .i64 o.c.kind, o.e.b1, o.e.b2, o.e.b3, .int .i64 o.c.t.a, .int .i64 o.c.t.b, .int .i64 o.c.t.c, .int .i64 o.c.home, .slice o.A o.rps.length o.ca, .slice o.B o.c.wrs.length o.cb, .int .i64 o.c.mn, .int .i64 o.c.til, .int .i64 o.c.ts, o.e.d1, o.e.d2, o.e.d3, o.e.d4, o.e.d5, o.e.d6, o.e.d7, o.e.d8, o.e.d9, o.e.d10, o.e.d11, o.e.d12, o.e.d13, o.e.d14, o.e.d15, o.e.d16, o.e.d17] HS (g := g79) (j := 0) rfl rfl (seg := [.int .i64 o.at_, .int .i64 o.c.kind, o.e.b1, o.e.b2, o.e.b3, .int .i64 o.c.t.a, .int .i64 o.c.t.b, .int .i64 o.c.t.c, .int .i64 o.c.home, .slice o.A o.rps.length o.ca, .slice o.B o.c.wrs.length o.cb, .int .i64 o.c.mn, .int .i64 o.c.til, .int .i64 o.c.ts, o.e.d1, o.e.d2, o.e.d3, o.e.d4, o.e.d5, o.e.d6, o.e.d7, o.e.d8, o.e.d9, o.e.d10, o.e.d11, o.e.d12, o.e.d13, o.e.d14, o.e.d15, o.e.d16, o.e.d17]) rfl ?ht (by first | rfl | assumption) ?hf ?he ?_; (case ht => exact szShY42); (case he => kernel_rfl); (case hf => first | (simp; done) | (simp [splice]; done)); intro w81 HS_; clear HS; have HS : St w S w81 [HP.obj g79 42 [.int .i64 o.at_, .int .i64 o.c.kind, o.e.b1, o.e.b2, o.e.b3, .int .i64 o.c.t.a, .int .i64 o.c.t.b, .int .i64 o.c.t.c, .int .i64 o.c.home, .slice o.A o.rps.length o.ca, .slice o.B o.c.wrs.length o.cb, .int .i64 o.c.mn, .int .i64 o.c.til, .int .i64 o.c.ts, o.e.d1, o.e.d2, o.e.d3, o.e.d4, o.e.d5, o.e.d6, o.e.d7, o.e.d8, o.e.d9, o.e.d10, o.e.d11, o.e.d12, o.e.d13, o.e.d14, o.e.d15, o.e.d16, o.e.d17], HP.obj g1 24 [.string p.a, .string p.b], HP.obj g3 26 [.int .i64 t.a, .int .i64 t.b, .int .i64 t.c], HP.row kHt 51 (.slice Ah hs.length ch) hs, shH gs m3] := HS_; clear HS_; have q82 := HS.cell 1; have q83 := HS.cell 5; have q84 := HS.cell 6; have q85 := HS.cell 7; have q86 := (HS.mv 2).cell 0; have q87 := (HS.mv 2).cell 1; have q88 := (HS.mv 2).cell 2))
                        replace HS := HS.drew
                        refine start_ (n := 7) (S := fun w' => w'.cell? ⟨g79, 0, none⟩ = some (.int .i64 o.at_)) (ds := []) #[false, false, false, false, false, false, false] (by kernel_rfl) rfl rfl (HS.cell 0) (fun hHeld => ?_)
                        refine pure_ (i := 0) (N := some 94) (v := ?_) (a' := ?_) #[true, false, false, false, false, false, false] rfl rfl (by kernel_rfl) (fun _ _ _ h => h) (Or.inl ⟨by rfl, ?_⟩) ?_ ?_
                        rotate_left
                        · intro w'
                          go_simp
                          with_reducible rfl
                        rotate_left
                        · simp only [Act.put, List.setIfInBounds_toArray, List.set_cons_zero, List.set_cons_succ, i64_w, i32_w]
                          rfl
                        refine pure_ (i := 1) (N := some 95) (v := ?_) (a' := ?_) #[true, true, false, false, false, false, false] rfl rfl (by kernel_rfl) (fun _ _ _ h => h) (Or.inl ⟨by rfl, ?_⟩) ?_ ?_
                        rotate_left
                        · intro w'
                          go_simp
                          with_reducible rfl
                        rotate_left
                        · simp only [Act.put, List.setIfInBounds_toArray, List.set_cons_zero, List.set_cons_succ, i64_w, i32_w]
                          rfl
                        refine pure_ (i := 3) (N := some 97) (v := ?_) (a' := ?_) #[true, true, false, true, false, false, false] rfl rfl (by kernel_rfl) (fun _ _ _ h => h) (Or.inl ⟨by rfl, ?_⟩) ?_ ?_
                        rotate_left
                        · intro w'
                          go_simp
                          with_reducible rfl
                        rotate_left
                        · simp only [Act.put, List.setIfInBounds_toArray, List.set_cons_zero, List.set_cons_succ, i64_w, i32_w]
                          rfl
                        refine take_ (i := 2) (N := some 96) (v := ?_) (a' := ?_) #[true, true, true, true, false, false, false] rfl rfl (by kernel_rfl) (fun _ _ _ h => h) (Or.inl ⟨by rfl, ?_⟩) hHeld ?_ ?_
                        rotate_left
                        · intro w' s0
                          go_simp
                          with_reducible rfl
                        rotate_left
                        · simp only [Act.put, List.setIfInBounds_toArray, List.set_cons_zero, List.set_cons_succ, i64_w, i32_w]
                          rfl
                        refine one_ (i := 4) (N := some 98) #[true, true, true, true, true, false, false] rfl rfl (by kernel_rfl) (by decide) (fun K hK => ?_)
                        refine ev_load_step (by rfl) rfl 40 (.tmp 97) rfl (g := g79) (j := 1) (seg := [.int .i64 o.c.kind, o.e.b1, o.e.b2, o.e.b3, .int .i64 o.c.t.a, .int .i64 o.c.t.b, .int .i64 o.c.t.c, .int .i64 o.c.home, .slice o.A o.rps.length o.ca, .slice o.B o.c.wrs.length o.cb, .int .i64 o.c.mn, .int .i64 o.c.til, .int .i64 o.c.ts, o.e.d1, o.e.d2, o.e.d3, o.e.d4, o.e.d5, o.e.d6, o.e.d7, o.e.d8, o.e.d9, o.e.d10, o.e.d11, o.e.d12, o.e.d13, o.e.d14, o.e.d15, o.e.d16, o.e.d17]) (by rfl) Try.underlying40 rfl szShY40 (St.seg HS 1 _ ?hs) ?_
                        case hs => kernel_rfl
                        refine hK.out _ _ (HS.cell 0) (fun hHeld => ?_)
                        clear hK K
                        refine norm_ (a' := ?_) ?_ ?_
                        rotate_left
                        · show Act.put _ (some 98) _ = _
                          simp only [Act.put, List.setIfInBounds_toArray, List.set_cons_zero, List.set_cons_succ, i64_w, i32_w]
                          rfl
                        refine one_ (i := 5) (N := some 99) #[true, true, true, true, true, true, false] rfl rfl (by kernel_rfl) (by decide) (fun K hK => ?_)
                        refine goes_ Try.func14 (by kernel_rfl) rfl #[.agg #[.int .i64 o.c.kind, o.e.b1, o.e.b2, o.e.b3, .int .i64 o.c.t.a, .int .i64 o.c.t.b, .int .i64 o.c.t.c, .int .i64 o.c.home, .slice o.A o.rps.length o.ca, .slice o.B o.c.wrs.length o.cb, .int .i64 o.c.mn, .int .i64 o.c.til, .int .i64 o.c.ts, o.e.d1, o.e.d2, o.e.d3, o.e.d4, o.e.d5, o.e.d6, o.e.d7, o.e.d8, o.e.d9, o.e.d10, o.e.d11, o.e.d12, o.e.d13, o.e.d14, o.e.d15, o.e.d16, o.e.d17]] (by rfl) rfl rfl (by simp only [List.map_toArray, List.map_cons, List.map_nil]; rfl) ?_
                        refine ((own_fun o.c o.e o.A o.ca o.rps o.B o.cb (ext_one HOO.out.one) ⟨HOO.out.r56, HOO.out.w40, HOO.out.s24⟩).call (F := [HP.obj g79 42 [.int .i64 o.at_, .int .i64 o.c.kind, o.e.b1, o.e.b2, o.e.b3, .int .i64 o.c.t.a, .int .i64 o.c.t.b, .int .i64 o.c.t.c, .int .i64 o.c.home, .slice o.A o.rps.length o.ca, .slice o.B o.c.wrs.length o.cb, .int .i64 o.c.mn, .int .i64 o.c.til, .int .i64 o.c.ts, o.e.d1, o.e.d2, o.e.d3, o.e.d4, o.e.d5, o.e.d6, o.e.d7, o.e.d8, o.e.d9, o.e.d10, o.e.d11, o.e.d12, o.e.d13, o.e.d14, o.e.d15, o.e.d16, o.e.d17], HP.obj g1 24 [.string p.a, .string p.b], HP.obj g3 26 [.int .i64 t.a, .int .i64 t.b, .int .i64 t.c], HP.row kHt 51 (.slice Ah hs.length ch) hs, shH gs m3]) HS (fun w_ _ e_ _ => HCM.out w_ e_)).mono ?_
                        rintro e_ w91 ⟨v_, rfl, HS_⟩
                        refine ⟨_, rfl, ?_⟩
                        clear HS
                        obtain ⟨wo, HS1_⟩ := St.ex_ HS_
                        clear HS_
                        obtain ⟨hwo_, HS_⟩ := St.and_ HS1_
                        obtain ⟨rfl, hwo_⟩ := hwo_
                        clear HS1_
                        have HWwo := Aside0.mk hwo_
                        clear hwo_
                        have HS : St w S w91 [ownH wo o.c.wrs, HP.obj g79 42 [.int .i64 o.at_, .int .i64 o.c.kind, o.e.b1, o.e.b2, o.e.b3, .int .i64 o.c.t.a, .int .i64 o.c.t.b, .int .i64 o.c.t.c, .int .i64 o.c.home, .slice o.A o.rps.length o.ca, .slice o.B o.c.wrs.length o.cb, .int .i64 o.c.mn, .int .i64 o.c.til, .int .i64 o.c.ts, o.e.d1, o.e.d2, o.e.d3, o.e.d4, o.e.d5, o.e.d6, o.e.d7, o.e.d8, o.e.d9, o.e.d10, o.e.d11, o.e.d12, o.e.d13, o.e.d14, o.e.d15, o.e.d16, o.e.d17], HP.obj g1 24 [.string p.a, .string p.b], HP.obj g3 26 [.int .i64 t.a, .int .i64 t.b, .int .i64 t.c], HP.row kHt 51 (.slice Ah hs.length ch) hs, shH gs m3] := HS_
                        clear HS_
                        refine hK.out _ _ ((HS.mv 1).cell 0) (fun hHeld => ?_)
                        clear hK K
                        refine norm_ (a' := ?_) ?_ ?_
                        rotate_left
                        · show Act.put _ (some 99) _ = _
                          simp only [Act.put, List.setIfInBounds_toArray, List.set_cons_zero, List.set_cons_succ, i64_w, i32_w]
                          rfl
                        refine one_ (i := 6) (N := some 100) #[true, true, true, true, true, true, true] rfl rfl (by kernel_rfl) (by decide) (fun K hK => ?_)
                        refine goes_ Try.func13 (by kernel_rfl) rfl #[.pointer (some ⟨gs, 0, none⟩), .int .i64 o.at_, .agg #[.int .i64 o.c.kind, o.e.b1, o.e.b2, o.e.b3, .int .i64 o.c.t.a, .int .i64 o.c.t.b, .int .i64 o.c.t.c, .int .i64 o.c.home, .slice wo.A wo.rps.length wo.ca, .slice wo.B o.c.wrs.length wo.cb, .int .i64 o.c.mn, .int .i64 o.c.til, .int .i64 o.c.ts, o.e.d1, o.e.d2, o.e.d3, o.e.d4, o.e.d5, o.e.d6, o.e.d7, o.e.d8, o.e.d9, o.e.d10, o.e.d11, o.e.d12, o.e.d13, o.e.d14, o.e.d15, o.e.d16, o.e.d17]] (by rfl) rfl rfl (by simp only [List.map_toArray, List.map_cons, List.map_nil]; rfl) ?_
                        refine ((HDO.out wo HWwo.out gs).call (F := [ownH wo o.c.wrs, HP.obj g79 42 [.int .i64 o.at_, .int .i64 o.c.kind, o.e.b1, o.e.b2, o.e.b3, .int .i64 o.c.t.a, .int .i64 o.c.t.b, .int .i64 o.c.t.c, .int .i64 o.c.home, .slice o.A o.rps.length o.ca, .slice o.B o.c.wrs.length o.cb, .int .i64 o.c.mn, .int .i64 o.c.til, .int .i64 o.c.ts, o.e.d1, o.e.d2, o.e.d3, o.e.d4, o.e.d5, o.e.d6, o.e.d7, o.e.d8, o.e.d9, o.e.d10, o.e.d11, o.e.d12, o.e.d13, o.e.d14, o.e.d15, o.e.d16, o.e.d17], HP.obj g1 24 [.string p.a, .string p.b], HP.obj g3 26 [.int .i64 t.a, .int .i64 t.b, .int .i64 t.c], HP.row kHt 51 (.slice Ah hs.length ch) hs]) (HS.mv 5) (fun w_ S_ _ hF_ => (let ⟨S1, h1⟩ := all_at hF_ 0 _ rfl; own_cm h1))).mono ?_
                        rintro e_ w92 ⟨rfl, HS_⟩
                        refine ⟨_, rfl, ?_⟩
                        clear HS
                        have HS : St w S w92 [shH gs m4, ownH wo o.c.wrs, HP.obj g79 42 [.int .i64 o.at_, .int .i64 o.c.kind, o.e.b1, o.e.b2, o.e.b3, .int .i64 o.c.t.a, .int .i64 o.c.t.b, .int .i64 o.c.t.c, .int .i64 o.c.home, .slice o.A o.rps.length o.ca, .slice o.B o.c.wrs.length o.cb, .int .i64 o.c.mn, .int .i64 o.c.til, .int .i64 o.c.ts, o.e.d1, o.e.d2, o.e.d3, o.e.d4, o.e.d5, o.e.d6, o.e.d7, o.e.d8, o.e.d9, o.e.d10, o.e.d11, o.e.d12, o.e.d13, o.e.d14, o.e.d15, o.e.d16, o.e.d17], HP.obj g1 24 [.string p.a, .string p.b], HP.obj g3 26 [.int .i64 t.a, .int .i64 t.b, .int .i64 t.c], HP.row kHt 51 (.slice Ah hs.length ch) hs] := HS_
                        clear HS_
                        refine hK.out _ _ ((HS.mv 2).cell 0) (fun hHeld => ?_)
                        clear hK K
                        refine norm_ (a' := ?_) ?_ ?_
                        rotate_left
                        · show Act.put _ (some 100) _ = _
                          simp only [Act.put, List.setIfInBounds_toArray, List.set_cons_zero, List.set_cons_succ, i64_w, i32_w]
                          rfl
                        refine done_ (by kernel_rfl) ?_
                        clear hHeld
                        have q93 := (HS.mv 3).cell 0
                        have q94 := (HS.mv 3).cell 1
                        go_wp2_with fail
                        have HSP := spanH_fun gs m4 _ HX.out.1 (by have := HTK.out; omega) p.a p.b
                        rw [HX.out.2.2] at HSP
                        refine ((HSP).call (F := [ownH wo o.c.wrs, HP.obj g79 42 [.int .i64 o.at_, .int .i64 o.c.kind, o.e.b1, o.e.b2, o.e.b3, .int .i64 o.c.t.a, .int .i64 o.c.t.b, .int .i64 o.c.t.c, .int .i64 o.c.home, .slice o.A o.rps.length o.ca, .slice o.B o.c.wrs.length o.cb, .int .i64 o.c.mn, .int .i64 o.c.til, .int .i64 o.c.ts, o.e.d1, o.e.d2, o.e.d3, o.e.d4, o.e.d5, o.e.d6, o.e.d7, o.e.d8, o.e.d9, o.e.d10, o.e.d11, o.e.d12, o.e.d13, o.e.d14, o.e.d15, o.e.d16, o.e.d17], HP.obj g1 24 [.string p.a, .string p.b], HP.obj g3 26 [.int .i64 t.a, .int .i64 t.b, .int .i64 t.c], HP.row kHt 51 (.slice Ah hs.length ch) hs]) HS (fun _ _ _ _ => trivial)).mono ?_
                        rintro e_ w96 ⟨vh2, rfl, HS_⟩
                        clear HS q93 q94
                        clear HSP
                        have HS : St w S w96 [HP.row kHt 51 vh2 hs, shH gs m4, ownH wo o.c.wrs, HP.obj g79 42 [.int .i64 o.at_, .int .i64 o.c.kind, o.e.b1, o.e.b2, o.e.b3, .int .i64 o.c.t.a, .int .i64 o.c.t.b, .int .i64 o.c.t.c, .int .i64 o.c.home, .slice o.A o.rps.length o.ca, .slice o.B o.c.wrs.length o.cb, .int .i64 o.c.mn, .int .i64 o.c.til, .int .i64 o.c.ts, o.e.d1, o.e.d2, o.e.d3, o.e.d4, o.e.d5, o.e.d6, o.e.d7, o.e.d8, o.e.d9, o.e.d10, o.e.d11, o.e.d12, o.e.d13, o.e.d14, o.e.d15, o.e.d16, o.e.d17], HP.obj g1 24 [.string p.a, .string p.b], HP.obj g3 26 [.int .i64 t.a, .int .i64 t.b, .int .i64 t.c], HP.row kHt 51 (.slice Ah hs.length ch) hs] := HS_
                        clear HS_
                        go_wp2_with fail
                        refine ((sameHits_fun vh2 (.slice Ah hs.length ch) hs (Nat.le_trans hhl (by decide))).call (F := [shH gs m4, ownH wo o.c.wrs, HP.obj g79 42 [.int .i64 o.at_, .int .i64 o.c.kind, o.e.b1, o.e.b2, o.e.b3, .int .i64 o.c.t.a, .int .i64 o.c.t.b, .int .i64 o.c.t.c, .int .i64 o.c.home, .slice o.A o.rps.length o.ca, .slice o.B o.c.wrs.length o.cb, .int .i64 o.c.mn, .int .i64 o.c.til, .int .i64 o.c.ts, o.e.d1, o.e.d2, o.e.d3, o.e.d4, o.e.d5, o.e.d6, o.e.d7, o.e.d8, o.e.d9, o.e.d10, o.e.d11, o.e.d12, o.e.d13, o.e.d14, o.e.d15, o.e.d16, o.e.d17], HP.obj g1 24 [.string p.a, .string p.b], HP.obj g3 26 [.int .i64 t.a, .int .i64 t.b, .int .i64 t.c]]) ((HS.mv 6).mv 1) (fun _ _ _ _ => trivial)).mono ?_
                        rintro e_ w97 ⟨rfl, HS_⟩
                        clear HS
                        have HS : St w S w97 [HP.row kHt 51 vh2 hs, HP.row kHt 51 (.slice Ah hs.length ch) hs, shH gs m4, ownH wo o.c.wrs, HP.obj g79 42 [.int .i64 o.at_, .int .i64 o.c.kind, o.e.b1, o.e.b2, o.e.b3, .int .i64 o.c.t.a, .int .i64 o.c.t.b, .int .i64 o.c.t.c, .int .i64 o.c.home, .slice o.A o.rps.length o.ca, .slice o.B o.c.wrs.length o.cb, .int .i64 o.c.mn, .int .i64 o.c.til, .int .i64 o.c.ts, o.e.d1, o.e.d2, o.e.d3, o.e.d4, o.e.d5, o.e.d6, o.e.d7, o.e.d8, o.e.d9, o.e.d10, o.e.d11, o.e.d12, o.e.d13, o.e.d14, o.e.d15, o.e.d16, o.e.d17], HP.obj g1 24 [.string p.a, .string p.b], HP.obj g3 26 [.int .i64 t.a, .int .i64 t.b, .int .i64 t.c]] := HS_
                        clear HS_
                        go_wp2_with fail
                        go_roundw
                        case rel => exact ⟨k + 1, m4, by omega, by go_num, HX, (((((((HS.out 0).out 2).out 2).mv 1).mv 1).mv 3).mv 3)⟩
                        case measure => simp [intOf]; omega
                    · have h4b : (o.c.kind == 4) = false := beq_eq_false_iff_ne.2 h4
                      have HX := Aside0.mk (HM4.out (fun h => h4 h.1))
                      clear h4
                      go_wp2_with (first
                        | ((with_reducible refine gate_dst (N := 82) rfl ?_); refine ev_loadA rfl 42 (.tmp 81) rfl (b := ad.add (k * 31)) (seg := [.int .i64 o.at_, .int .i64 o.c.kind, o.e.b1, o.e.b2, o.e.b3, .int .i64 o.c.t.a, .int .i64 o.c.t.b, .int .i64 o.c.t.c, .int .i64 o.c.home, .slice o.A o.rps.length o.ca, .slice o.B o.c.wrs.length o.cb, .int .i64 o.c.mn, .int .i64 o.c.til, .int .i64 o.c.ts, o.e.d1, o.e.d2, o.e.d3, o.e.d4, o.e.d5, o.e.d6, o.e.d7, o.e.d8, o.e.d9, o.e.d10, o.e.d11, o.e.d12, o.e.d13, o.e.d14, o.e.d15, o.e.d16, o.e.d17]) rfl Try.underlying42 rfl szShY42 (HCO.out _ _ HS) ?_)
                        | ((with_reducible refine gate_dst (N := 18) rfl ?_); refine ev_box ?hg (N := 18) ?hd (cs := [.int .i64 0, .int .i64 0, .int .i64 0, .int .i64 0, .int .i64 0, .int .i64 0, .int .i64 0, .int .i64 0, .int .i64 0, .slice none 0 0, .slice none 0 0, .int .i64 0, .int .i64 0, .int .i64 0, .int .i64 0, .int .i64 0, .int .i64 0, .string ⟨#[]⟩, .string ⟨#[]⟩, .string ⟨#[]⟩, .string ⟨#[]⟩, .bool false, .int .i64 0, .int .i64 0, .int .i64 0, .string ⟨#[]⟩, .slice none 0 0, .int .i64 0, .int .i64 0, .string ⟨#[]⟩, .int .i64 0]) (t := 42) HS ?hr ?_; (case hd => rfl); (case hg => rfl); (case hr => first | (go_simp; done) | (go_simp; rfl)); intro g98 w99 HS_ hg_; clear hg_; clear HS; have HS : St w S w99 [HP.obj g98 42 [.int .i64 0, .int .i64 0, .int .i64 0, .int .i64 0, .int .i64 0, .int .i64 0, .int .i64 0, .int .i64 0, .int .i64 0, .slice none 0 0, .slice none 0 0, .int .i64 0, .int .i64 0, .int .i64 0, .int .i64 0, .int .i64 0, .int .i64 0, .string ⟨#[]⟩, .string ⟨#[]⟩, .string ⟨#[]⟩, .string ⟨#[]⟩, .bool false, .int .i64 0, .int .i64 0, .int .i64 0, .string ⟨#[]⟩, .slice none 0 0, .int .i64 0, .int .i64 0, .string ⟨#[]⟩, .int .i64 0], HP.obj g1 24 [.string p.a, .string p.b], HP.obj g3 26 [.int .i64 t.a, .int .i64 t.b, .int .i64 t.c], HP.row kHt 51 (.slice Ah hs.length ch) hs, shH gs m3] := HS_; clear HS_)
                        | ((with_reducible refine gate_ (.store 42 (.tmp 18) (.tmp 82)) rfl ?_); refine ev_store2 rfl rfl 42 (.tmp 18) (.tmp 82) rfl [.int .i64 o.at_, .int .i64 o.c.kind, o.e.b1, o.e.b2, o.e.b3, .int .i64 o.c.t.a, .int .i64 o.c.t.b, .int .i64 o.c.t.c, .int .i64 o.c.home, .slice o.A o.rps.length o.ca, .slice o.B o.c.wrs.length o.cb, .int .i64 o.c.mn, .int .i64 o.c.til, .int .i64 o.c.ts, o.e.d1, o.e.d2, o.e.d3, o.e.d4, o.e.d5, o.e.d6, o.e.d7, o.e.d8, o.e.d9, o.e.d10, o.e.d11, o.e.d12, o.e.d13, o.e.d14, o.e.d15, o.e.d16, o.e.d17] HS (g := g98) (j := 0) rfl rfl (seg := [.int .i64 o.at_, .int .i64 o.c.kind, o.e.b1, o.e.b2, o.e.b3, .int .i64 o.c.t.a, .int .i64 o.c.t.b, .int .i64 o.c.t.c, .int .i64 o.c.home, .slice o.A o.rps.length o.ca, .slice o.B o.c.wrs.length o.cb, .int .i64 o.c.mn, .int .i64 o.c.til, .int .i64 o.c.ts, o.e.d1, o.e.d2, o.e.d3, o.e.d4, o.e.d5, o.e.d6, o.e.d7, o.e.d8, o.e.d9, o.e.d10, o.e.d11, o.e.d12, o.e.d13, o.e.d14, o.e.d15, o.e.d16, o.e.d17]) rfl ?ht (by first | rfl | assumption) ?hf ?he ?_; (case ht => exact szShY42); (case he => kernel_rfl); (case hf => first | (simp; done) | (simp [splice]; done)); intro w100 HS_; clear HS; have HS : St w S w100 [HP.obj g98 42 [.int .i64 o.at_, .int .i64 o.c.kind, o.e.b1, o.e.b2, o.e.b3, .int .i64 o.c.t.a, .int .i64 o.c.t.b, .int .i64 o.c.t.c, .int .i64 o.c.home, .slice o.A o.rps.length o.ca, .slice o.B o.c.wrs.length o.cb, .int .i64 o.c.mn, .int .i64 o.c.til, .int .i64 o.c.ts, o.e.d1, o.e.d2, o.e.d3, o.e.d4, o.e.d5, o.e.d6, o.e.d7, o.e.d8, o.e.d9, o.e.d10, o.e.d11, o.e.d12, o.e.d13, o.e.d14, o.e.d15, o.e.d16, o.e.d17], HP.obj g1 24 [.string p.a, .string p.b], HP.obj g3 26 [.int .i64 t.a, .int .i64 t.b, .int .i64 t.c], HP.row kHt 51 (.slice Ah hs.length ch) hs, shH gs m3] := HS_; clear HS_; have q101 := HS.cell 1))
                      replace HS := HS.drew
                      refine start_ (n := 7) (S := fun w' => w'.cell? ⟨g98, 0, none⟩ = some (.int .i64 o.at_)) (ds := []) #[false, false, false, false, false, false, false] (by kernel_rfl) rfl rfl (HS.cell 0) (fun hHeld => ?_)
                      refine pure_ (i := 0) (N := some 94) (v := ?_) (a' := ?_) #[true, false, false, false, false, false, false] rfl rfl (by kernel_rfl) (fun _ _ _ h => h) (Or.inl ⟨by rfl, ?_⟩) ?_ ?_
                      rotate_left
                      · intro w'
                        go_simp
                        with_reducible rfl
                      rotate_left
                      · simp only [Act.put, List.setIfInBounds_toArray, List.set_cons_zero, List.set_cons_succ, i64_w, i32_w]
                        rfl
                      refine pure_ (i := 1) (N := some 95) (v := ?_) (a' := ?_) #[true, true, false, false, false, false, false] rfl rfl (by kernel_rfl) (fun _ _ _ h => h) (Or.inl ⟨by rfl, ?_⟩) ?_ ?_
                      rotate_left
                      · intro w'
                        go_simp
                        with_reducible rfl
                      rotate_left
                      · simp only [Act.put, List.setIfInBounds_toArray, List.set_cons_zero, List.set_cons_succ, i64_w, i32_w]
                        rfl
                      refine pure_ (i := 3) (N := some 97) (v := ?_) (a' := ?_) #[true, true, false, true, false, false, false] rfl rfl (by kernel_rfl) (fun _ _ _ h => h) (Or.inl ⟨by rfl, ?_⟩) ?_ ?_
                      rotate_left
                      · intro w'
                        go_simp
                        with_reducible rfl
                      rotate_left
                      · simp only [Act.put, List.setIfInBounds_toArray, List.set_cons_zero, List.set_cons_succ, i64_w, i32_w]
                        rfl
                      refine take_ (i := 2) (N := some 96) (v := ?_) (a' := ?_) #[true, true, true, true, false, false, false] rfl rfl (by kernel_rfl) (fun _ _ _ h => h) (Or.inl ⟨by rfl, ?_⟩) hHeld ?_ ?_
                      rotate_left
                      · intro w' s0
                        go_simp
                        with_reducible rfl
                      rotate_left
                      · simp only [Act.put, List.setIfInBounds_toArray, List.set_cons_zero, List.set_cons_succ, i64_w, i32_w]
                        rfl
                      refine one_ (i := 4) (N := some 98) #[true, true, true, true, true, false, false] rfl rfl (by kernel_rfl) (by decide) (fun K hK => ?_)
                      refine ev_load_step (by rfl) rfl 40 (.tmp 97) rfl (g := g98) (j := 1) (seg := [.int .i64 o.c.kind, o.e.b1, o.e.b2, o.e.b3, .int .i64 o.c.t.a, .int .i64 o.c.t.b, .int .i64 o.c.t.c, .int .i64 o.c.home, .slice o.A o.rps.length o.ca, .slice o.B o.c.wrs.length o.cb, .int .i64 o.c.mn, .int .i64 o.c.til, .int .i64 o.c.ts, o.e.d1, o.e.d2, o.e.d3, o.e.d4, o.e.d5, o.e.d6, o.e.d7, o.e.d8, o.e.d9, o.e.d10, o.e.d11, o.e.d12, o.e.d13, o.e.d14, o.e.d15, o.e.d16, o.e.d17]) (by rfl) Try.underlying40 rfl szShY40 (St.seg HS 1 _ ?hs) ?_
                      case hs => kernel_rfl
                      refine hK.out _ _ (HS.cell 0) (fun hHeld => ?_)
                      clear hK K
                      refine norm_ (a' := ?_) ?_ ?_
                      rotate_left
                      · show Act.put _ (some 98) _ = _
                        simp only [Act.put, List.setIfInBounds_toArray, List.set_cons_zero, List.set_cons_succ, i64_w, i32_w]
                        rfl
                      refine one_ (i := 5) (N := some 99) #[true, true, true, true, true, true, false] rfl rfl (by kernel_rfl) (by decide) (fun K hK => ?_)
                      refine goes_ Try.func14 (by kernel_rfl) rfl #[.agg #[.int .i64 o.c.kind, o.e.b1, o.e.b2, o.e.b3, .int .i64 o.c.t.a, .int .i64 o.c.t.b, .int .i64 o.c.t.c, .int .i64 o.c.home, .slice o.A o.rps.length o.ca, .slice o.B o.c.wrs.length o.cb, .int .i64 o.c.mn, .int .i64 o.c.til, .int .i64 o.c.ts, o.e.d1, o.e.d2, o.e.d3, o.e.d4, o.e.d5, o.e.d6, o.e.d7, o.e.d8, o.e.d9, o.e.d10, o.e.d11, o.e.d12, o.e.d13, o.e.d14, o.e.d15, o.e.d16, o.e.d17]] (by rfl) rfl rfl (by simp only [List.map_toArray, List.map_cons, List.map_nil]; rfl) ?_
                      refine ((own_fun o.c o.e o.A o.ca o.rps o.B o.cb (ext_one HOO.out.one) ⟨HOO.out.r56, HOO.out.w40, HOO.out.s24⟩).call (F := [HP.obj g98 42 [.int .i64 o.at_, .int .i64 o.c.kind, o.e.b1, o.e.b2, o.e.b3, .int .i64 o.c.t.a, .int .i64 o.c.t.b, .int .i64 o.c.t.c, .int .i64 o.c.home, .slice o.A o.rps.length o.ca, .slice o.B o.c.wrs.length o.cb, .int .i64 o.c.mn, .int .i64 o.c.til, .int .i64 o.c.ts, o.e.d1, o.e.d2, o.e.d3, o.e.d4, o.e.d5, o.e.d6, o.e.d7, o.e.d8, o.e.d9, o.e.d10, o.e.d11, o.e.d12, o.e.d13, o.e.d14, o.e.d15, o.e.d16, o.e.d17], HP.obj g1 24 [.string p.a, .string p.b], HP.obj g3 26 [.int .i64 t.a, .int .i64 t.b, .int .i64 t.c], HP.row kHt 51 (.slice Ah hs.length ch) hs, shH gs m3]) HS (fun w_ _ e_ _ => HCM.out w_ e_)).mono ?_
                      rintro e_ w104 ⟨v_, rfl, HS_⟩
                      refine ⟨_, rfl, ?_⟩
                      clear HS
                      obtain ⟨wo, HS1_⟩ := St.ex_ HS_
                      clear HS_
                      obtain ⟨hwo_, HS_⟩ := St.and_ HS1_
                      obtain ⟨rfl, hwo_⟩ := hwo_
                      clear HS1_
                      have HWwo := Aside0.mk hwo_
                      clear hwo_
                      have HS : St w S w104 [ownH wo o.c.wrs, HP.obj g98 42 [.int .i64 o.at_, .int .i64 o.c.kind, o.e.b1, o.e.b2, o.e.b3, .int .i64 o.c.t.a, .int .i64 o.c.t.b, .int .i64 o.c.t.c, .int .i64 o.c.home, .slice o.A o.rps.length o.ca, .slice o.B o.c.wrs.length o.cb, .int .i64 o.c.mn, .int .i64 o.c.til, .int .i64 o.c.ts, o.e.d1, o.e.d2, o.e.d3, o.e.d4, o.e.d5, o.e.d6, o.e.d7, o.e.d8, o.e.d9, o.e.d10, o.e.d11, o.e.d12, o.e.d13, o.e.d14, o.e.d15, o.e.d16, o.e.d17], HP.obj g1 24 [.string p.a, .string p.b], HP.obj g3 26 [.int .i64 t.a, .int .i64 t.b, .int .i64 t.c], HP.row kHt 51 (.slice Ah hs.length ch) hs, shH gs m3] := HS_
                      clear HS_
                      refine hK.out _ _ ((HS.mv 1).cell 0) (fun hHeld => ?_)
                      clear hK K
                      refine norm_ (a' := ?_) ?_ ?_
                      rotate_left
                      · show Act.put _ (some 99) _ = _
                        simp only [Act.put, List.setIfInBounds_toArray, List.set_cons_zero, List.set_cons_succ, i64_w, i32_w]
                        rfl
                      refine one_ (i := 6) (N := some 100) #[true, true, true, true, true, true, true] rfl rfl (by kernel_rfl) (by decide) (fun K hK => ?_)
                      refine goes_ Try.func13 (by kernel_rfl) rfl #[.pointer (some ⟨gs, 0, none⟩), .int .i64 o.at_, .agg #[.int .i64 o.c.kind, o.e.b1, o.e.b2, o.e.b3, .int .i64 o.c.t.a, .int .i64 o.c.t.b, .int .i64 o.c.t.c, .int .i64 o.c.home, .slice wo.A wo.rps.length wo.ca, .slice wo.B o.c.wrs.length wo.cb, .int .i64 o.c.mn, .int .i64 o.c.til, .int .i64 o.c.ts, o.e.d1, o.e.d2, o.e.d3, o.e.d4, o.e.d5, o.e.d6, o.e.d7, o.e.d8, o.e.d9, o.e.d10, o.e.d11, o.e.d12, o.e.d13, o.e.d14, o.e.d15, o.e.d16, o.e.d17]] (by rfl) rfl rfl (by simp only [List.map_toArray, List.map_cons, List.map_nil]; rfl) ?_
                      refine ((HDO.out wo HWwo.out gs).call (F := [ownH wo o.c.wrs, HP.obj g98 42 [.int .i64 o.at_, .int .i64 o.c.kind, o.e.b1, o.e.b2, o.e.b3, .int .i64 o.c.t.a, .int .i64 o.c.t.b, .int .i64 o.c.t.c, .int .i64 o.c.home, .slice o.A o.rps.length o.ca, .slice o.B o.c.wrs.length o.cb, .int .i64 o.c.mn, .int .i64 o.c.til, .int .i64 o.c.ts, o.e.d1, o.e.d2, o.e.d3, o.e.d4, o.e.d5, o.e.d6, o.e.d7, o.e.d8, o.e.d9, o.e.d10, o.e.d11, o.e.d12, o.e.d13, o.e.d14, o.e.d15, o.e.d16, o.e.d17], HP.obj g1 24 [.string p.a, .string p.b], HP.obj g3 26 [.int .i64 t.a, .int .i64 t.b, .int .i64 t.c], HP.row kHt 51 (.slice Ah hs.length ch) hs]) (HS.mv 5) (fun w_ S_ _ hF_ => (let ⟨S1, h1⟩ := all_at hF_ 0 _ rfl; own_cm h1))).mono ?_
                      rintro e_ w105 ⟨rfl, HS_⟩
                      refine ⟨_, rfl, ?_⟩
                      clear HS
                      have HS : St w S w105 [shH gs m4, ownH wo o.c.wrs, HP.obj g98 42 [.int .i64 o.at_, .int .i64 o.c.kind, o.e.b1, o.e.b2, o.e.b3, .int .i64 o.c.t.a, .int .i64 o.c.t.b, .int .i64 o.c.t.c, .int .i64 o.c.home, .slice o.A o.rps.length o.ca, .slice o.B o.c.wrs.length o.cb, .int .i64 o.c.mn, .int .i64 o.c.til, .int .i64 o.c.ts, o.e.d1, o.e.d2, o.e.d3, o.e.d4, o.e.d5, o.e.d6, o.e.d7, o.e.d8, o.e.d9, o.e.d10, o.e.d11, o.e.d12, o.e.d13, o.e.d14, o.e.d15, o.e.d16, o.e.d17], HP.obj g1 24 [.string p.a, .string p.b], HP.obj g3 26 [.int .i64 t.a, .int .i64 t.b, .int .i64 t.c], HP.row kHt 51 (.slice Ah hs.length ch) hs] := HS_
                      clear HS_
                      refine hK.out _ _ ((HS.mv 2).cell 0) (fun hHeld => ?_)
                      clear hK K
                      refine norm_ (a' := ?_) ?_ ?_
                      rotate_left
                      · show Act.put _ (some 100) _ = _
                        simp only [Act.put, List.setIfInBounds_toArray, List.set_cons_zero, List.set_cons_succ, i64_w, i32_w]
                        rfl
                      refine done_ (by kernel_rfl) ?_
                      clear hHeld
                      have q106 := (HS.mv 3).cell 0
                      have q107 := (HS.mv 3).cell 1
                      go_wp2_with fail
                      have HSP := spanH_fun gs m4 _ HX.out.1 (by have := HTK.out; omega) p.a p.b
                      rw [HX.out.2.2] at HSP
                      refine ((HSP).call (F := [ownH wo o.c.wrs, HP.obj g98 42 [.int .i64 o.at_, .int .i64 o.c.kind, o.e.b1, o.e.b2, o.e.b3, .int .i64 o.c.t.a, .int .i64 o.c.t.b, .int .i64 o.c.t.c, .int .i64 o.c.home, .slice o.A o.rps.length o.ca, .slice o.B o.c.wrs.length o.cb, .int .i64 o.c.mn, .int .i64 o.c.til, .int .i64 o.c.ts, o.e.d1, o.e.d2, o.e.d3, o.e.d4, o.e.d5, o.e.d6, o.e.d7, o.e.d8, o.e.d9, o.e.d10, o.e.d11, o.e.d12, o.e.d13, o.e.d14, o.e.d15, o.e.d16, o.e.d17], HP.obj g1 24 [.string p.a, .string p.b], HP.obj g3 26 [.int .i64 t.a, .int .i64 t.b, .int .i64 t.c], HP.row kHt 51 (.slice Ah hs.length ch) hs]) HS (fun _ _ _ _ => trivial)).mono ?_
                      rintro e_ w109 ⟨vh2, rfl, HS_⟩
                      clear HS q106 q107
                      clear HSP
                      have HS : St w S w109 [HP.row kHt 51 vh2 hs, shH gs m4, ownH wo o.c.wrs, HP.obj g98 42 [.int .i64 o.at_, .int .i64 o.c.kind, o.e.b1, o.e.b2, o.e.b3, .int .i64 o.c.t.a, .int .i64 o.c.t.b, .int .i64 o.c.t.c, .int .i64 o.c.home, .slice o.A o.rps.length o.ca, .slice o.B o.c.wrs.length o.cb, .int .i64 o.c.mn, .int .i64 o.c.til, .int .i64 o.c.ts, o.e.d1, o.e.d2, o.e.d3, o.e.d4, o.e.d5, o.e.d6, o.e.d7, o.e.d8, o.e.d9, o.e.d10, o.e.d11, o.e.d12, o.e.d13, o.e.d14, o.e.d15, o.e.d16, o.e.d17], HP.obj g1 24 [.string p.a, .string p.b], HP.obj g3 26 [.int .i64 t.a, .int .i64 t.b, .int .i64 t.c], HP.row kHt 51 (.slice Ah hs.length ch) hs] := HS_
                      clear HS_
                      go_wp2_with fail
                      refine ((sameHits_fun vh2 (.slice Ah hs.length ch) hs (Nat.le_trans hhl (by decide))).call (F := [shH gs m4, ownH wo o.c.wrs, HP.obj g98 42 [.int .i64 o.at_, .int .i64 o.c.kind, o.e.b1, o.e.b2, o.e.b3, .int .i64 o.c.t.a, .int .i64 o.c.t.b, .int .i64 o.c.t.c, .int .i64 o.c.home, .slice o.A o.rps.length o.ca, .slice o.B o.c.wrs.length o.cb, .int .i64 o.c.mn, .int .i64 o.c.til, .int .i64 o.c.ts, o.e.d1, o.e.d2, o.e.d3, o.e.d4, o.e.d5, o.e.d6, o.e.d7, o.e.d8, o.e.d9, o.e.d10, o.e.d11, o.e.d12, o.e.d13, o.e.d14, o.e.d15, o.e.d16, o.e.d17], HP.obj g1 24 [.string p.a, .string p.b], HP.obj g3 26 [.int .i64 t.a, .int .i64 t.b, .int .i64 t.c]]) ((HS.mv 6).mv 1) (fun _ _ _ _ => trivial)).mono ?_
                      rintro e_ w110 ⟨rfl, HS_⟩
                      clear HS
                      have HS : St w S w110 [HP.row kHt 51 vh2 hs, HP.row kHt 51 (.slice Ah hs.length ch) hs, shH gs m4, ownH wo o.c.wrs, HP.obj g98 42 [.int .i64 o.at_, .int .i64 o.c.kind, o.e.b1, o.e.b2, o.e.b3, .int .i64 o.c.t.a, .int .i64 o.c.t.b, .int .i64 o.c.t.c, .int .i64 o.c.home, .slice o.A o.rps.length o.ca, .slice o.B o.c.wrs.length o.cb, .int .i64 o.c.mn, .int .i64 o.c.til, .int .i64 o.c.ts, o.e.d1, o.e.d2, o.e.d3, o.e.d4, o.e.d5, o.e.d6, o.e.d7, o.e.d8, o.e.d9, o.e.d10, o.e.d11, o.e.d12, o.e.d13, o.e.d14, o.e.d15, o.e.d16, o.e.d17], HP.obj g1 24 [.string p.a, .string p.b], HP.obj g3 26 [.int .i64 t.a, .int .i64 t.b, .int .i64 t.c]] := HS_
                      clear HS_
                      go_wp2_with fail
                      go_roundw
                      case rel => exact ⟨k + 1, m4, by omega, by go_num, HX, (((((((HS.out 0).out 2).out 2).mv 1).mv 1).mv 3).mv 3)⟩
                      case measure => simp [intOf]; omega
                  · have hltI : ¬ (k : Int) < (os2.length : Int) := by omega
                    go_wp2_with fail
                    go_ret
                    exact ⟨rfl, ((((HS.out 0).out 0).out 0).out 0)⟩
    · skip
      go_enter Try.func3, Try.ntmps3
      go_wp2_with (first
        | ((with_reducible refine gate_dst (N := 5) rfl ?_); refine ev_box ?hg (N := 5) ?hd (cs := [.string p.a, .string p.b]) (t := 24) HS ?hr ?_; (case hd => rfl); (case hg => rfl); (case hr => first | (go_simp; done) | (go_simp; rfl)); intro g1 w2 HS_ hg_; clear hg_; clear HS; have HS : St w S w2 [HP.obj g1 24 [.string p.a, .string p.b]] := HS_; clear HS_)
        | ((with_reducible refine gate_dst (N := 6) rfl ?_); refine ev_box ?hg (N := 6) ?hd (cs := [.int .i64 t.a, .int .i64 t.b, .int .i64 t.c]) (t := 26) HS ?hr ?_; (case hd => rfl); (case hg => rfl); (case hr => first | (go_simp; done) | (go_simp; rfl)); intro g3 w4 HS_ hg_; clear hg_; clear HS; have HS : St w S w4 [HP.obj g3 26 [.int .i64 t.a, .int .i64 t.b, .int .i64 t.c], HP.obj g1 24 [.string p.a, .string p.b]] := HS_; clear HS_))
      refine ((awake_fun).call (F := [HP.obj g3 26 [.int .i64 t.a, .int .i64 t.b, .int .i64 t.c], HP.obj g1 24 [.string p.a, .string p.b]]) HS (fun _ _ _ _ => trivial)).mono ?_
      rintro e_ w5 ⟨rfl, HS_⟩
      clear HS
      have HS : St w S w5 [HP.obj g3 26 [.int .i64 t.a, .int .i64 t.b, .int .i64 t.c], HP.obj g1 24 [.string p.a, .string p.b]] := HS_
      clear HS_
      go_wp2_with fail
      refine ((HGR.out).call (F := [HP.obj g3 26 [.int .i64 t.a, .int .i64 t.b, .int .i64 t.c], HP.obj g1 24 [.string p.a, .string p.b]]) HS (fun w_ _ e_ _ => (HR2.out w_ e_).1)).mono ?_
      rintro e_ w6 ⟨rfl, HS_⟩
      clear HS
      have HS : St w S w6 [HP.obj g3 26 [.int .i64 t.a, .int .i64 t.b, .int .i64 t.c], HP.obj g1 24 [.string p.a, .string p.b]] := HS_
      clear HS_
      go_wp2_with fail
      refine ((HGR2.out).call (F := [HP.obj g3 26 [.int .i64 t.a, .int .i64 t.b, .int .i64 t.c], HP.obj g1 24 [.string p.a, .string p.b]]) HS (fun w_ _ e_ _ => (HR2.out w_ e_).2)).mono ?_
      rintro e_ w7 ⟨rfl, HS_⟩
      clear HS
      have HS : St w S w7 [HP.obj g3 26 [.int .i64 t.a, .int .i64 t.b, .int .i64 t.c], HP.obj g1 24 [.string p.a, .string p.b]] := HS_
      clear HS_
      go_wp2_with fail
      refine ((awake_fun).call (F := [HP.obj g3 26 [.int .i64 t.a, .int .i64 t.b, .int .i64 t.c], HP.obj g1 24 [.string p.a, .string p.b]]) HS (fun _ _ _ _ => trivial)).mono ?_
      rintro e_ w8 ⟨rfl, HS_⟩
      clear HS
      have HS : St w S w8 [HP.obj g3 26 [.int .i64 t.a, .int .i64 t.b, .int .i64 t.c], HP.obj g1 24 [.string p.a, .string p.b]] := HS_
      clear HS_
      go_wp2_with fail
      go_ret
      exact ⟨rfl, ((HS.out 0).out 0)⟩
  · skip
    go_enter Try.func3, Try.ntmps3
    go_wp2_with (first
      | ((with_reducible refine gate_dst (N := 5) rfl ?_); refine ev_box ?hg (N := 5) ?hd (cs := [.string p.a, .string p.b]) (t := 24) HS ?hr ?_; (case hd => rfl); (case hg => rfl); (case hr => first | (go_simp; done) | (go_simp; rfl)); intro g1 w2 HS_ hg_; clear hg_; clear HS; have HS : St w S w2 [HP.obj g1 24 [.string p.a, .string p.b]] := HS_; clear HS_)
      | ((with_reducible refine gate_dst (N := 6) rfl ?_); refine ev_box ?hg (N := 6) ?hd (cs := [.int .i64 t.a, .int .i64 t.b, .int .i64 t.c]) (t := 26) HS ?hr ?_; (case hd => rfl); (case hg => rfl); (case hr => first | (go_simp; done) | (go_simp; rfl)); intro g3 w4 HS_ hg_; clear hg_; clear HS; have HS : St w S w4 [HP.obj g3 26 [.int .i64 t.a, .int .i64 t.b, .int .i64 t.c], HP.obj g1 24 [.string p.a, .string p.b]] := HS_; clear HS_))
    refine ((awake_fun).call (F := [HP.obj g3 26 [.int .i64 t.a, .int .i64 t.b, .int .i64 t.c], HP.obj g1 24 [.string p.a, .string p.b]]) HS (fun _ _ _ _ => trivial)).mono ?_
    rintro e_ w5 ⟨rfl, HS_⟩
    clear HS
    have HS : St w S w5 [HP.obj g3 26 [.int .i64 t.a, .int .i64 t.b, .int .i64 t.c], HP.obj g1 24 [.string p.a, .string p.b]] := HS_
    clear HS_
    go_wp2_with fail
    refine ((HGR.out).call (F := [HP.obj g3 26 [.int .i64 t.a, .int .i64 t.b, .int .i64 t.c], HP.obj g1 24 [.string p.a, .string p.b]]) HS (fun w_ _ e_ _ => (HR2.out w_ e_).1)).mono ?_
    rintro e_ w6 ⟨rfl, HS_⟩
    clear HS
    have HS : St w S w6 [HP.obj g3 26 [.int .i64 t.a, .int .i64 t.b, .int .i64 t.c], HP.obj g1 24 [.string p.a, .string p.b]] := HS_
    clear HS_
    go_wp2_with fail
    refine ((awake_fun).call (F := [HP.obj g3 26 [.int .i64 t.a, .int .i64 t.b, .int .i64 t.c], HP.obj g1 24 [.string p.a, .string p.b]]) HS (fun _ _ _ _ => trivial)).mono ?_
    rintro e_ w7 ⟨rfl, HS_⟩
    clear HS
    have HS : St w S w7 [HP.obj g3 26 [.int .i64 t.a, .int .i64 t.b, .int .i64 t.c], HP.obj g1 24 [.string p.a, .string p.b]] := HS_
    clear HS_
    go_wp2_with fail
    go_ret
    exact ⟨rfl, ((HS.out 0).out 0)⟩
end Go.Proofs.Ytphenpncdhgdhaa.Shd
