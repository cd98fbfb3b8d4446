/- read, write, walked. -/
import Derived.Test.YtphenpncdhgdhaaShC
namespace Go.Proofs.Ytphenpncdhgdhaa.Shd
open Go.RowKit Go.Proofs.YtphenpncdhgdhaaW.PrintWords Go.Proofs.YtphenpncdhgdhaaW.PrintLast Go.Proofs.YtphenpncdhgdhaaW.PrintMore Go.Proofs.Ytphenpncdhgdhaa.Sl Go.Proofs.Ytphenpncdhgdhaa.Str Go.Proofs.Ytphenpncdhgdhaa.Ver
set_option linter.unusedVariables false
set_option linter.unusedSimpArgs false
theorem szShD44 : (Try.prog.info? 44).map (·.size) = some 9 := by kernel_rfl
theorem szShD62 : (Try.prog.info? 62).map (·.size) = some 7 := by kernel_rfl
theorem sup_st {X : HP} {ps : List Lp} (h : Sup X ps) {w0 w : World} {S0 : Nat → Prop} {F : List HP} (H : St w0 S0 w (X :: F)) {p : Lp} (hp : p ∈ ps) : Held p w :=
  let ⟨_, ⟨S1, _, a, _⟩, _⟩ := H.holds
  h w S1 a p hp
theorem held_v {l : Lk} {u : Value} {A : Option Addr} {c : Nat} {w : World} (h : Held ⟨l, u, .slice A l.wrs.length c⟩ w) : Kd.C kWr w A l.wrs.length l.wrs := by
  obtain ⟨A1, c1, A2, c2, e1, h1, q1, e2, h2, q2⟩ := h
  injection e2 with e3 e4 e5
  rw [e3]
  exact q2
theorem held_u {l : Lk} {v : Value} {A : Option Addr} {c : Nat} {w : World} (h : Held ⟨l, .slice A l.sps.length c, v⟩ w) : Kd.C kSp w A l.sps.length l.sps := by
  obtain ⟨A1, c1, A2, c2, e1, h1, q1, e2, h2, q2⟩ := h
  injection e1 with e3 e4 e5
  rw [e3]
  exact q1
set_option maxHeartbeats 4000000 in
set_option maxRecDepth 20000 in
theorem read_fun {gs gst gf gg : Nat} {Al Ar Ao : Option Addr} {cl cr co : Nat} {ps : List Lp} {rcs : List Rc} {ov : List Td} {rows : List Rw} {high : Int} {X : HP} (r : Rd) (A : Option Addr) (c : Nat) (hSup : Sup X ps) (n : Nat) (hkp : Kept rows n) (hn : n ≤ 1000000) (hl : ps.length ≤ 1000000) (hw : ∀ p ∈ ps, p.l.wrs.length ≤ 1000000 ∧ p.l.sps.length ≤ 1000000) (hs : r.seen.length ≤ 1000000) :
    FunV Try.prog 56 #[.pointer (some ⟨gs, 0, none⟩), .agg #[.string r.sp.a, .string r.sp.b, .slice A r.seen.length c]] (fun w => Kd.C kSg w A r.seen.length r.seen) [HP.obj gs 98 [.pointer (some ⟨gst, 0, none⟩), .slice Al ps.length cl, .slice Ar rcs.length cr, .map (some gf), .slice Ao ov.length co, .map (some gg), .int .i64 high], someH gst rows, HP.row kLp 62 (.slice Al ps.length cl) ps, X] (rsV (readP rows (ps.map (·.l)) r)) [HP.obj gs 98 [.pointer (some ⟨gst, 0, none⟩), .slice Al ps.length cl, .slice Ar rcs.length cr, .map (some gf), .slice Ao ov.length co, .map (some gg), .int .i64 high], someH gst rows, HP.row kLp 62 (.slice Al ps.length cl) ps, X] := by
  intro w S hS hR
  have HS := St.start hS
  have HR := Aside0.mk hR
  have HSUP := Aside0.mk hSup
  have hWL := Aside0.mk hw
  clear hS hR hSup hw
  obtain ⟨f0, hf0⟩ : ∃ f0, (ps.map (·.l)).find? (hitsIn r) = f0 := ⟨_, rfl⟩
  unfold readP
  rw [hf0]
  have HE := Aside0.mk hf0
  clear hf0
  obtain ⟨b0, hb0⟩ : ∃ b0, eqL (span rows r.sp.a r.sp.b ever) r.seen = b0 := ⟨_, rfl⟩
  have hq : (if (span rows r.sp.a r.sp.b ever).map stampOf = r.seen then rs0 else { rs0 with err := 130 }) = (if b0 = true then rs0 else { rs0 with err := 130 }) := by
    have := hb0
    rw [eqL_iff] at this
    by_cases h : (span rows r.sp.a r.sp.b ever).map stampOf = r.seen
    · rw [if_pos h, if_pos (by rw [← this]; exact decide_eq_true h)]
    · rw [if_neg h, if_neg (by rw [← this, decide_eq_false h]; decide)]
  rw [hq]
  have hsl : (span rows r.sp.a r.sp.b ever).length ≤ 1000000 := Nat.le_trans (span_len rows _ _ _) (Nat.le_trans hkp.len hn)
  have HB := Aside0.mk hb0
  clear hb0 hq
  have hu98 := Try.underlying98
  have hu55 := Try.underlying55
  have hu62 := Try.underlying62
  have hu44 := Try.underlying44
  have hu24 := Try.underlying24
  have hus := Try.underlying58
  have HQ := Aside0.mk (fun v_ => equal_fun v_ (span rows r.sp.a r.sp.b ever) A c r.seen b0 HB.out (Nat.le_trans hsl (by decide)) (Nat.le_trans hs (by decide)))
  go_enter Try.func56, Try.ntmps56
  go_wp2_with (first
    | ((with_reducible refine gate_dst (N := 3) rfl ?_); refine ev_box ?hg (N := 3) ?hd (cs := [.string r.sp.a, .string r.sp.b, .slice A r.seen.length c]) (t := 55) HS ?hr ?_; (case hd => rfl); (case hg => rfl); (case hr => first | (go_simp; done) | (go_simp; rfl)); intro g1 w2 HS_ hg_; clear hg_; clear HS; have HS : St w S w2 [HP.obj g1 55 [.string r.sp.a, .string r.sp.b, .slice A r.seen.length c], HP.obj gs 98 [.pointer (some ⟨gst, 0, none⟩), .slice Al ps.length cl, .slice Ar rcs.length cr, .map (some gf), .slice Ao ov.length co, .map (some gg), .int .i64 high], someH gst rows, HP.row kLp 62 (.slice Al ps.length cl) ps, X] := HS_; clear HS_)
    | ((with_reducible refine gate_dst (N := 4) rfl ?_); refine ev_box ?hg (N := 4) ?hd (cs := [.int .i64 0, .int .i64 0, .int .i64 0, .int .i64 0, .int .i64 0, .int .i64 0, .int .i64 0, .int .i64 0, .bool false]) (t := 44) HS ?hr ?_; (case hd => rfl); (case hg => rfl); (case hr => first | (go_simp; done) | (go_simp; rfl)); intro g3 w4 HS_ hg_; clear hg_; clear HS; have HS : St w S w4 [HP.obj g3 44 [.int .i64 0, .int .i64 0, .int .i64 0, .int .i64 0, .int .i64 0, .int .i64 0, .int .i64 0, .int .i64 0, .bool false], HP.obj g1 55 [.string r.sp.a, .string r.sp.b, .slice A r.seen.length c], HP.obj gs 98 [.pointer (some ⟨gst, 0, none⟩), .slice Al ps.length cl, .slice Ar rcs.length cr, .map (some gf), .slice Ao ov.length co, .map (some gg), .int .i64 high], someH gst rows, HP.row kLp 62 (.slice Al ps.length cl) ps, X] := HS_; clear HS_; have q5 := (HS.mv 2).cell 1))
  go_loopw [14] (fun v14 w' => ∃ k : Nat, k ≤ ps.length ∧ v14 = .int .i64 k ∧ Aside0 (((ps.drop k).map (·.l)).find? (hitsIn r) = f0) ∧ St w S w' [HP.obj g1 55 [.string r.sp.a, .string r.sp.b, .slice A r.seen.length c], HP.obj g3 44 [.int .i64 0, .int .i64 0, .int .i64 0, .int .i64 0, .int .i64 0, .int .i64 0, .int .i64 0, .int .i64 0, .bool false], HP.obj gs 98 [.pointer (some ⟨gst, 0, none⟩), .slice Al ps.length cl, .slice Ar rcs.length cr, .map (some gf), .slice Ao ov.length co, .map (some gg), .int .i64 high], someH gst rows, HP.row kLp 62 (.slice Al ps.length cl) ps, X]) (fun v14 _ => ps.length - (intOf v14).toNat)
  case atStart => exact ⟨0, Nat.zero_le _, rfl, HE, ((((((HS.mv 5).mv 5).mv 5).mv 5).mv 4).mv 5)⟩
  case round =>
    clear HS HE
    obtain ⟨k, hk, rfl, HE, HS⟩ := hrel
    have hk0 : (0 : Int) ≤ (k : Int) := by omega
    by_cases hlt : k < ps.length
    · skip
      have hltI : (k : Int) < (ps.length : Int) := by omega
      have hwk : IntKind.i64.wrap ((k : Int) + 1) = ((k + 1 : Nat) : Int) := by rw [IntWalk.i64_in _ (by omega)]; omega
      have hd : ps.drop k = ps[k] :: ps.drop (k + 1) := List.drop_eq_getElem_cons hlt
      have hp : ps[k]? = some ps[k] := List.getElem?_eq_getElem hlt
      have hm : ps[k] ∈ ps := List.getElem_mem hlt
      obtain ⟨p, hpe⟩ : ∃ p, ps[k] = p := ⟨_, rfl⟩
      rw [hpe] at hd hp hm
      obtain ⟨gl, cl_, ev⟩ := St.row_form (HS.mv 4) (by omega)
      simp only [Value.slice.injEq] at ev
      obtain ⟨rfl, -, rfl⟩ := ev
      have hfl := hWL.out p hm
      obtain ⟨l, u, v⟩ := p
      obtain ⟨A1, c1, A2, c2, hu_, -, -, hv_, -, -⟩ := sup_st HSUP.out (HS.mv 5) hm
      have hu2_ : u = .slice A1 l.sps.length c1 := hu_
      have hv2_ : v = .slice A2 l.wrs.length c2 := hv_
      clear hu_ hv_
      subst hu2_
      subst hv2_
      have HMEM := Aside0.mk hm
      have HC := Aside0.mk (fun (w' : World) (F : List HP) (h : St w S w' (HP.row kLp 62 (.slice (some ⟨gl, 0, none⟩) ps.length cl) ps :: F)) => (show w'.cell? ⟨gl, k * 7, none⟩ = some (.int .i64 l.t.a) ∧ w'.cell? ⟨gl, k * 7 + 1, none⟩ = some (.int .i64 l.t.b) ∧ w'.cell? ⟨gl, k * 7 + 2, none⟩ = some (.int .i64 l.t.c) ∧ w'.cell? ⟨gl, k * 7 + 3, none⟩ = some (.int .i64 l.home) ∧ w'.cell? ⟨gl, k * 7 + 4, none⟩ = some (.int .i64 l.til) ∧ w'.cell? ⟨gl, k * 7 + 5, none⟩ = some (.slice A1 l.sps.length c1) ∧ w'.cell? ⟨gl, k * 7 + 6, none⟩ = some (.slice A2 l.wrs.length c2) from Lp_row h k _ hp))
      have he := HE.out
      rw [hd, List.map_cons, List.find?_cons] at he
      clear hd hp hm hpe HE
      obtain ⟨b, hb⟩ : ∃ b, hitsIn r l = b := ⟨_, rfl⟩
      have hb2 : hitsIn r (⟨l, .slice A1 l.sps.length c1, .slice A2 l.wrs.length c2⟩ : Lp).l = b := hb
      rw [hb2] at he
      have HI := Aside0.mk (show ∀ gr : Nat, FunV Try.prog 75 #[.slice A2 l.wrs.length c2, fcl 76 (.pointer (some ⟨gr, 0, none⟩))] (fun w => Kd.C kWr w A2 l.wrs.length l.wrs) [HP.obj gr 55 [.string r.sp.a, .string r.sp.b, .slice A r.seen.length c]] (.bool b) [HP.obj gr 55 [.string r.sp.a, .string r.sp.b, .slice A r.seen.length c]] from by
        intro gr
        rw [← hb]
        exact hasWr_fun 76 (.pointer (some ⟨gr, 0, none⟩)) (fun x => inside x.key r.sp.a r.sp.b) (HP.obj gr 55 [.string r.sp.a, .string r.sp.b, .slice A r.seen.length c]) (enters Try.func76 (by kernel_rfl) (by kernel_rfl)) (fun x => readIn_fun gr r _ x) A2 c2 l.wrs (Nat.le_trans hfl.1 (by decide)))
      clear hb hb2
      cases b
      · skip
        have HE2 := Aside0.mk (show ((ps.drop (k + 1)).map (·.l)).find? (hitsIn r) = f0 from he)
        clear he
        obtain ⟨q6, q7, q8, q9, q10, q11, q12⟩ := HC.out _ _ (HS.mv 4)
        go_wp2_with (first
          | ((with_reducible refine gate_dst (N := 6) rfl ?_); refine ev_box ?hg (N := 6) ?hd (cs := [.int .i64 0, .int .i64 0, .int .i64 0, .int .i64 0, .int .i64 0, .slice none 0 0, .slice none 0 0]) (t := 62) HS ?hr ?_; (case hd => rfl); (case hg => rfl); (case hr => first | (go_simp; done) | (go_simp; rfl)); intro g13 w14 HS_ hg_; clear hg_; clear HS q6 q7 q8 q9 q10 q11 q12; have HS : St w S w14 [HP.obj g13 62 [.int .i64 0, .int .i64 0, .int .i64 0, .int .i64 0, .int .i64 0, .slice none 0 0, .slice none 0 0], HP.obj g1 55 [.string r.sp.a, .string r.sp.b, .slice A r.seen.length c], HP.obj g3 44 [.int .i64 0, .int .i64 0, .int .i64 0, .int .i64 0, .int .i64 0, .int .i64 0, .int .i64 0, .int .i64 0, .bool false], HP.obj gs 98 [.pointer (some ⟨gst, 0, none⟩), .slice (some ⟨gl, 0, none⟩) ps.length cl, .slice Ar rcs.length cr, .map (some gf), .slice Ao ov.length co, .map (some gg), .int .i64 high], someH gst rows, HP.row kLp 62 (.slice (some ⟨gl, 0, none⟩) ps.length cl) ps, X] := HS_; clear HS_)
          | ((with_reducible refine gate_ (.store 62 (.tmp 6) (.tmp 17)) rfl ?_); refine ev_store2 rfl rfl 62 (.tmp 6) (.tmp 17) rfl [.int .i64 l.t.a, .int .i64 l.t.b, .int .i64 l.t.c, .int .i64 l.home, .int .i64 l.til, .slice A1 l.sps.length c1, .slice A2 l.wrs.length c2] HS (g := g13) (j := 0) rfl rfl (seg := [.int .i64 l.t.a, .int .i64 l.t.b, .int .i64 l.t.c, .int .i64 l.home, .int .i64 l.til, .slice A1 l.sps.length c1, .slice A2 l.wrs.length c2]) rfl ?ht rfl ?hf ?he ?_; (case ht => exact szShD62); (case he => kernel_rfl); (case hf => first | (simp; done) | (simp [splice]; done)); intro w15 HS_; clear HS; have HS : St w S w15 [HP.obj g13 62 [.int .i64 l.t.a, .int .i64 l.t.b, .int .i64 l.t.c, .int .i64 l.home, .int .i64 l.til, .slice A1 l.sps.length c1, .slice A2 l.wrs.length c2], HP.obj g1 55 [.string r.sp.a, .string r.sp.b, .slice A r.seen.length c], HP.obj g3 44 [.int .i64 0, .int .i64 0, .int .i64 0, .int .i64 0, .int .i64 0, .int .i64 0, .int .i64 0, .int .i64 0, .bool false], HP.obj gs 98 [.pointer (some ⟨gst, 0, none⟩), .slice (some ⟨gl, 0, none⟩) ps.length cl, .slice Ar rcs.length cr, .map (some gf), .slice Ao ov.length co, .map (some gg), .int .i64 high], someH gst rows, HP.row kLp 62 (.slice (some ⟨gl, 0, none⟩) ps.length cl) ps, X] := HS_; clear HS_; have q16 := HS.cell 6))
        refine ((HI.out g1).call (F := [HP.obj g13 62 [.int .i64 l.t.a, .int .i64 l.t.b, .int .i64 l.t.c, .int .i64 l.home, .int .i64 l.til, .slice A1 l.sps.length c1, .slice A2 l.wrs.length c2], HP.obj g3 44 [.int .i64 0, .int .i64 0, .int .i64 0, .int .i64 0, .int .i64 0, .int .i64 0, .int .i64 0, .int .i64 0, .bool false], HP.obj gs 98 [.pointer (some ⟨gst, 0, none⟩), .slice (some ⟨gl, 0, none⟩) ps.length cl, .slice Ar rcs.length cr, .map (some gf), .slice Ao ov.length co, .map (some gg), .int .i64 high], someH gst rows, HP.row kLp 62 (.slice (some ⟨gl, 0, none⟩) ps.length cl) ps, X]) (HS.mv 1) (fun w_ S_ _ hF_ => held_v (sup_at HSUP.out hF_ 5 rfl HMEM.out))).mono ?_
        rintro e_ w17 ⟨rfl, HS_⟩
        clear HS q16
        have HS : St w S w17 [HP.obj g1 55 [.string r.sp.a, .string r.sp.b, .slice A r.seen.length c], HP.obj g13 62 [.int .i64 l.t.a, .int .i64 l.t.b, .int .i64 l.t.c, .int .i64 l.home, .int .i64 l.til, .slice A1 l.sps.length c1, .slice A2 l.wrs.length c2], HP.obj g3 44 [.int .i64 0, .int .i64 0, .int .i64 0, .int .i64 0, .int .i64 0, .int .i64 0, .int .i64 0, .int .i64 0, .bool false], HP.obj gs 98 [.pointer (some ⟨gst, 0, none⟩), .slice (some ⟨gl, 0, none⟩) ps.length cl, .slice Ar rcs.length cr, .map (some gf), .slice Ao ov.length co, .map (some gg), .int .i64 high], someH gst rows, HP.row kLp 62 (.slice (some ⟨gl, 0, none⟩) ps.length cl) ps, X] := HS_
        clear HS_
        go_wp2_with fail
        go_roundw
        case rel => exact ⟨k + 1, by omega, by go_num, HE2, (HS.out 1)⟩
        case measure => simp [intOf]; omega
      · skip
        have HE2 := Aside0.mk (show some l = f0 from he)
        clear he
        obtain rfl := HE2.out
        obtain ⟨q18, q19, q20, q21, q22, q23, q24⟩ := HC.out _ _ (HS.mv 4)
        go_wp2_with (first
          | ((with_reducible refine gate_dst (N := 6) rfl ?_); refine ev_box ?hg (N := 6) ?hd (cs := [.int .i64 0, .int .i64 0, .int .i64 0, .int .i64 0, .int .i64 0, .slice none 0 0, .slice none 0 0]) (t := 62) HS ?hr ?_; (case hd => rfl); (case hg => rfl); (case hr => first | (go_simp; done) | (go_simp; rfl)); intro g25 w26 HS_ hg_; clear hg_; clear HS q18 q19 q20 q21 q22 q23 q24; have HS : St w S w26 [HP.obj g25 62 [.int .i64 0, .int .i64 0, .int .i64 0, .int .i64 0, .int .i64 0, .slice none 0 0, .slice none 0 0], HP.obj g1 55 [.string r.sp.a, .string r.sp.b, .slice A r.seen.length c], HP.obj g3 44 [.int .i64 0, .int .i64 0, .int .i64 0, .int .i64 0, .int .i64 0, .int .i64 0, .int .i64 0, .int .i64 0, .bool false], HP.obj gs 98 [.pointer (some ⟨gst, 0, none⟩), .slice (some ⟨gl, 0, none⟩) ps.length cl, .slice Ar rcs.length cr, .map (some gf), .slice Ao ov.length co, .map (some gg), .int .i64 high], someH gst rows, HP.row kLp 62 (.slice (some ⟨gl, 0, none⟩) ps.length cl) ps, X] := HS_; clear HS_)
          | ((with_reducible refine gate_ (.store 62 (.tmp 6) (.tmp 17)) rfl ?_); refine ev_store2 rfl rfl 62 (.tmp 6) (.tmp 17) rfl [.int .i64 l.t.a, .int .i64 l.t.b, .int .i64 l.t.c, .int .i64 l.home, .int .i64 l.til, .slice A1 l.sps.length c1, .slice A2 l.wrs.length c2] HS (g := g25) (j := 0) rfl rfl (seg := [.int .i64 l.t.a, .int .i64 l.t.b, .int .i64 l.t.c, .int .i64 l.home, .int .i64 l.til, .slice A1 l.sps.length c1, .slice A2 l.wrs.length c2]) rfl ?ht rfl ?hf ?he ?_; (case ht => exact szShD62); (case he => kernel_rfl); (case hf => first | (simp; done) | (simp [splice]; done)); intro w27 HS_; clear HS; have HS : St w S w27 [HP.obj g25 62 [.int .i64 l.t.a, .int .i64 l.t.b, .int .i64 l.t.c, .int .i64 l.home, .int .i64 l.til, .slice A1 l.sps.length c1, .slice A2 l.wrs.length c2], HP.obj g1 55 [.string r.sp.a, .string r.sp.b, .slice A r.seen.length c], HP.obj g3 44 [.int .i64 0, .int .i64 0, .int .i64 0, .int .i64 0, .int .i64 0, .int .i64 0, .int .i64 0, .int .i64 0, .bool false], HP.obj gs 98 [.pointer (some ⟨gst, 0, none⟩), .slice (some ⟨gl, 0, none⟩) ps.length cl, .slice Ar rcs.length cr, .map (some gf), .slice Ao ov.length co, .map (some gg), .int .i64 high], someH gst rows, HP.row kLp 62 (.slice (some ⟨gl, 0, none⟩) ps.length cl) ps, X] := HS_; clear HS_; have q28 := HS.cell 6))
        refine ((HI.out g1).call (F := [HP.obj g25 62 [.int .i64 l.t.a, .int .i64 l.t.b, .int .i64 l.t.c, .int .i64 l.home, .int .i64 l.til, .slice A1 l.sps.length c1, .slice A2 l.wrs.length c2], HP.obj g3 44 [.int .i64 0, .int .i64 0, .int .i64 0, .int .i64 0, .int .i64 0, .int .i64 0, .int .i64 0, .int .i64 0, .bool false], HP.obj gs 98 [.pointer (some ⟨gst, 0, none⟩), .slice (some ⟨gl, 0, none⟩) ps.length cl, .slice Ar rcs.length cr, .map (some gf), .slice Ao ov.length co, .map (some gg), .int .i64 high], someH gst rows, HP.row kLp 62 (.slice (some ⟨gl, 0, none⟩) ps.length cl) ps, X]) (HS.mv 1) (fun w_ S_ _ hF_ => held_v (sup_at HSUP.out hF_ 5 rfl HMEM.out))).mono ?_
        rintro e_ w29 ⟨rfl, HS_⟩
        clear HS q28
        have HS : St w S w29 [HP.obj g1 55 [.string r.sp.a, .string r.sp.b, .slice A r.seen.length c], HP.obj g25 62 [.int .i64 l.t.a, .int .i64 l.t.b, .int .i64 l.t.c, .int .i64 l.home, .int .i64 l.til, .slice A1 l.sps.length c1, .slice A2 l.wrs.length c2], HP.obj g3 44 [.int .i64 0, .int .i64 0, .int .i64 0, .int .i64 0, .int .i64 0, .int .i64 0, .int .i64 0, .int .i64 0, .bool false], HP.obj gs 98 [.pointer (some ⟨gst, 0, none⟩), .slice (some ⟨gl, 0, none⟩) ps.length cl, .slice Ar rcs.length cr, .map (some gf), .slice Ao ov.length co, .map (some gg), .int .i64 high], someH gst rows, HP.row kLp 62 (.slice (some ⟨gl, 0, none⟩) ps.length cl) ps, X] := HS_
        clear HS_
        have q30 := (HS.mv 1).cell 0
        have q31 := (HS.mv 1).cell 1
        have q32 := (HS.mv 1).cell 2
        have q33 := (HS.mv 1).cell 3
        have q34 := (HS.mv 1).cell 4
        have q35 := (HS.mv 1).cell 5
        have q36 := (HS.mv 1).cell 6
        go_wp2_with fail
        refine ((busy_fun ⟨l, .slice A1 l.sps.length c1, .slice A2 l.wrs.length c2⟩).call (F := [HP.obj g1 55 [.string r.sp.a, .string r.sp.b, .slice A r.seen.length c], HP.obj g25 62 [.int .i64 l.t.a, .int .i64 l.t.b, .int .i64 l.t.c, .int .i64 l.home, .int .i64 l.til, .slice A1 l.sps.length c1, .slice A2 l.wrs.length c2], HP.obj g3 44 [.int .i64 0, .int .i64 0, .int .i64 0, .int .i64 0, .int .i64 0, .int .i64 0, .int .i64 0, .int .i64 0, .bool false], HP.obj gs 98 [.pointer (some ⟨gst, 0, none⟩), .slice (some ⟨gl, 0, none⟩) ps.length cl, .slice Ar rcs.length cr, .map (some gf), .slice Ao ov.length co, .map (some gg), .int .i64 high], someH gst rows, HP.row kLp 62 (.slice (some ⟨gl, 0, none⟩) ps.length cl) ps, X]) HS (fun _ _ _ _ => trivial)).mono ?_
        rintro e_ w37 ⟨rfl, HS_⟩
        clear HS q30 q31 q32 q33 q34 q35 q36
        have HS : St w S w37 [HP.obj g1 55 [.string r.sp.a, .string r.sp.b, .slice A r.seen.length c], HP.obj g25 62 [.int .i64 l.t.a, .int .i64 l.t.b, .int .i64 l.t.c, .int .i64 l.home, .int .i64 l.til, .slice A1 l.sps.length c1, .slice A2 l.wrs.length c2], HP.obj g3 44 [.int .i64 0, .int .i64 0, .int .i64 0, .int .i64 0, .int .i64 0, .int .i64 0, .int .i64 0, .int .i64 0, .bool false], HP.obj gs 98 [.pointer (some ⟨gst, 0, none⟩), .slice (some ⟨gl, 0, none⟩) ps.length cl, .slice Ar rcs.length cr, .map (some gf), .slice Ao ov.length co, .map (some gg), .int .i64 high], someH gst rows, HP.row kLp 62 (.slice (some ⟨gl, 0, none⟩) ps.length cl) ps, X] := HS_
        clear HS_
        go_wp2_with (first
          | ((with_reducible refine gate_ (.store 44 (.tmp 4) (.tmp 23)) rfl ?_); refine ev_store2 rfl rfl 44 (.tmp 4) (.tmp 23) rfl [.int .i64 131, .int .i64 0, .int .i64 l.t.a, .int .i64 l.t.b, .int .i64 l.t.c, .int .i64 0, .int .i64 l.til, .int .i64 0, .bool false] (HS.mv 2) (g := g3) (j := 0) rfl rfl (seg := [.int .i64 131, .int .i64 0, .int .i64 l.t.a, .int .i64 l.t.b, .int .i64 l.t.c, .int .i64 0, .int .i64 l.til, .int .i64 0, .bool false]) rfl ?ht rfl ?hf ?he ?_; (case ht => exact szShD44); (case he => kernel_rfl); (case hf => first | (simp; done) | (simp [splice]; done)); intro w38 HS_; clear HS; have HS : St w S w38 [HP.obj g3 44 [.int .i64 131, .int .i64 0, .int .i64 l.t.a, .int .i64 l.t.b, .int .i64 l.t.c, .int .i64 0, .int .i64 l.til, .int .i64 0, .bool false], HP.obj g1 55 [.string r.sp.a, .string r.sp.b, .slice A r.seen.length c], HP.obj g25 62 [.int .i64 l.t.a, .int .i64 l.t.b, .int .i64 l.t.c, .int .i64 l.home, .int .i64 l.til, .slice A1 l.sps.length c1, .slice A2 l.wrs.length c2], HP.obj gs 98 [.pointer (some ⟨gst, 0, none⟩), .slice (some ⟨gl, 0, none⟩) ps.length cl, .slice Ar rcs.length cr, .map (some gf), .slice Ao ov.length co, .map (some gg), .int .i64 high], someH gst rows, HP.row kLp 62 (.slice (some ⟨gl, 0, none⟩) ps.length cl) ps, X] := HS_; clear HS_))
        have HB := HS.blk
        try simp only [Exit.inBlock, Exit.then]
        refine bodyPost_ret (results_cell_row rfl _ _ g3 44 #[.int .i64 131, .int .i64 0, .int .i64 l.t.a, .int .i64 l.t.b, .int .i64 l.t.c, .int .i64 0, .int .i64 l.til, .int .i64 0, .bool false] (0, 0) _ rfl HB Try.underlying44 rfl (by kernel_rfl)) rfl ?_
        exact ⟨rfl, (((HS.out 0).out 0).out 0)⟩
    · have hltI : ¬ (k : Int) < (ps.length : Int) := by omega
      have HE2 := Aside0.mk (show none = f0 by have he := HE.out; rw [List.drop_eq_nil_of_le (by omega)] at he; exact he)
      clear HE
      obtain rfl := HE2.out
      have q39 := HS.cell 0
      have q40 := HS.cell 1
      go_wp2_with fail
      refine ((span_sh (X := X) n hkp hn r.sp.a r.sp.b).call (F := [HP.obj g1 55 [.string r.sp.a, .string r.sp.b, .slice A r.seen.length c], HP.obj g3 44 [.int .i64 0, .int .i64 0, .int .i64 0, .int .i64 0, .int .i64 0, .int .i64 0, .int .i64 0, .int .i64 0, .bool false], HP.row kLp 62 (.slice Al ps.length cl) ps, X]) ((HS.mv 3).mv 3) (fun _ _ _ _ => trivial)).mono ?_
      rintro e_ w42 ⟨v41, rfl, HS_⟩
      clear HS q39 q40
      have HS : St w S w42 [HP.row kHt 51 v41 (span rows r.sp.a r.sp.b ever), HP.obj gs 98 [.pointer (some ⟨gst, 0, none⟩), .slice Al ps.length cl, .slice Ar rcs.length cr, .map (some gf), .slice Ao ov.length co, .map (some gg), .int .i64 high], someH gst rows, HP.obj g1 55 [.string r.sp.a, .string r.sp.b, .slice A r.seen.length c], HP.obj g3 44 [.int .i64 0, .int .i64 0, .int .i64 0, .int .i64 0, .int .i64 0, .int .i64 0, .int .i64 0, .int .i64 0, .bool false], HP.row kLp 62 (.slice Al ps.length cl) ps, X] := HS_
      clear HS_
      have q43 := (HS.mv 3).cell 2
      go_wp2_with fail
      refine ((HQ.out v41).call (F := [HP.obj gs 98 [.pointer (some ⟨gst, 0, none⟩), .slice Al ps.length cl, .slice Ar rcs.length cr, .map (some gf), .slice Ao ov.length co, .map (some gg), .int .i64 high], someH gst rows, HP.obj g1 55 [.string r.sp.a, .string r.sp.b, .slice A r.seen.length c], HP.obj g3 44 [.int .i64 0, .int .i64 0, .int .i64 0, .int .i64 0, .int .i64 0, .int .i64 0, .int .i64 0, .int .i64 0, .bool false], HP.row kLp 62 (.slice Al ps.length cl) ps, X]) HS (fun w_ _ e_ _ => HR.out w_ e_)).mono ?_
      rintro e_ w44 ⟨rfl, HS_⟩
      clear HS q43
      have HS : St w S w44 [HP.row kHt 51 v41 (span rows r.sp.a r.sp.b ever), HP.obj gs 98 [.pointer (some ⟨gst, 0, none⟩), .slice Al ps.length cl, .slice Ar rcs.length cr, .map (some gf), .slice Ao ov.length co, .map (some gg), .int .i64 high], someH gst rows, HP.obj g1 55 [.string r.sp.a, .string r.sp.b, .slice A r.seen.length c], HP.obj g3 44 [.int .i64 0, .int .i64 0, .int .i64 0, .int .i64 0, .int .i64 0, .int .i64 0, .int .i64 0, .int .i64 0, .bool false], HP.row kLp 62 (.slice Al ps.length cl) ps, X] := HS_
      clear HS_
      cases b0
      · skip
        go_wp2_with (first
          | ((with_reducible refine gate_ (.store 44 (.tmp 4) (.tmp 35)) rfl ?_); refine ev_store2 rfl rfl 44 (.tmp 4) (.tmp 35) rfl [.int .i64 130, .int .i64 0, .int .i64 0, .int .i64 0, .int .i64 0, .int .i64 0, .int .i64 0, .int .i64 0, .bool false] (HS.mv 4) (g := g3) (j := 0) rfl rfl (seg := [.int .i64 130, .int .i64 0, .int .i64 0, .int .i64 0, .int .i64 0, .int .i64 0, .int .i64 0, .int .i64 0, .bool false]) rfl ?ht rfl ?hf ?he ?_; (case ht => exact szShD44); (case he => kernel_rfl); (case hf => first | (simp; done) | (simp [splice]; done)); intro w45 HS_; clear HS; have HS : St w S w45 [HP.obj g3 44 [.int .i64 130, .int .i64 0, .int .i64 0, .int .i64 0, .int .i64 0, .int .i64 0, .int .i64 0, .int .i64 0, .bool false], HP.row kHt 51 v41 (span rows r.sp.a r.sp.b ever), HP.obj gs 98 [.pointer (some ⟨gst, 0, none⟩), .slice Al ps.length cl, .slice Ar rcs.length cr, .map (some gf), .slice Ao ov.length co, .map (some gg), .int .i64 high], someH gst rows, HP.obj g1 55 [.string r.sp.a, .string r.sp.b, .slice A r.seen.length c], HP.row kLp 62 (.slice Al ps.length cl) ps, X] := HS_; clear HS_))
        have HB := HS.blk
        try simp only [Exit.inBlock, Exit.then]
        refine bodyPost_ret (results_cell_row rfl _ _ g3 44 #[.int .i64 130, .int .i64 0, .int .i64 0, .int .i64 0, .int .i64 0, .int .i64 0, .int .i64 0, .int .i64 0, .bool false] (0, 0) _ rfl HB Try.underlying44 rfl (by kernel_rfl)) rfl ?_
        exact ⟨rfl, (((HS.out 0).out 0).out 2)⟩
      · skip
        go_wp2_with (first
          | ((with_reducible refine gate_ (.store 44 (.tmp 4) (.tmp 36)) rfl ?_); refine ev_store2 rfl rfl 44 (.tmp 4) (.tmp 36) rfl [.int .i64 0, .int .i64 0, .int .i64 0, .int .i64 0, .int .i64 0, .int .i64 0, .int .i64 0, .int .i64 0, .bool false] (HS.mv 4) (g := g3) (j := 0) rfl rfl (seg := [.int .i64 0, .int .i64 0, .int .i64 0, .int .i64 0, .int .i64 0, .int .i64 0, .int .i64 0, .int .i64 0, .bool false]) rfl ?ht rfl ?hf ?he ?_; (case ht => exact szShD44); (case he => kernel_rfl); (case hf => first | (simp; done) | (simp [splice]; done)); intro w46 HS_; clear HS; have HS : St w S w46 [HP.obj g3 44 [.int .i64 0, .int .i64 0, .int .i64 0, .int .i64 0, .int .i64 0, .int .i64 0, .int .i64 0, .int .i64 0, .bool false], HP.row kHt 51 v41 (span rows r.sp.a r.sp.b ever), HP.obj gs 98 [.pointer (some ⟨gst, 0, none⟩), .slice Al ps.length cl, .slice Ar rcs.length cr, .map (some gf), .slice Ao ov.length co, .map (some gg), .int .i64 high], someH gst rows, HP.obj g1 55 [.string r.sp.a, .string r.sp.b, .slice A r.seen.length c], HP.row kLp 62 (.slice Al ps.length cl) ps, X] := HS_; clear HS_))
        have HB := HS.blk
        try simp only [Exit.inBlock, Exit.then]
        refine bodyPost_ret (results_cell_row rfl _ _ g3 44 #[.int .i64 0, .int .i64 0, .int .i64 0, .int .i64 0, .int .i64 0, .int .i64 0, .int .i64 0, .int .i64 0, .bool false] (0, 0) _ rfl HB Try.underlying44 rfl (by kernel_rfl)) rfl ?_
        exact ⟨rfl, (((HS.out 0).out 0).out 2)⟩
set_option maxHeartbeats 4000000 in
set_option maxRecDepth 20000 in
theorem write_fun {gs gst gf gg : Nat} {Al Ar Ao : Option Addr} {cl cr co : Nat} {ps : List Lp} {rcs : List Rc} {ov : List Td} {rows : List Rw} {high : Int} {X : HP} (y : Wr) (hSup : Sup X ps) (hl : ps.length ≤ 1000000) (hw : ∀ p ∈ ps, p.l.wrs.length ≤ 1000000 ∧ p.l.sps.length ≤ 1000000) :
    FunV Try.prog 57 #[.pointer (some ⟨gs, 0, none⟩), .agg #[.string y.key, .string y.val, .bool y.dead]] (fun _ => True) [HP.obj gs 98 [.pointer (some ⟨gst, 0, none⟩), .slice Al ps.length cl, .slice Ar rcs.length cr, .map (some gf), .slice Ao ov.length co, .map (some gg), .int .i64 high], HP.row kLp 62 (.slice Al ps.length cl) ps, X] (rsV (writeP (ps.map (·.l)) y)) [HP.obj gs 98 [.pointer (some ⟨gst, 0, none⟩), .slice Al ps.length cl, .slice Ar rcs.length cr, .map (some gf), .slice Ao ov.length co, .map (some gg), .int .i64 high], HP.row kLp 62 (.slice Al ps.length cl) ps, X] := by
  intro w S hS hR
  have HS := St.start hS
  have HR := Aside0.mk hR
  have HSUP := Aside0.mk hSup
  have hWL := Aside0.mk hw
  clear hS hR hSup hw
  obtain ⟨f0, hf0⟩ : ∃ f0, (ps.map (·.l)).find? (meets y) = f0 := ⟨_, rfl⟩
  unfold writeP
  rw [hf0]
  have HE := Aside0.mk hf0
  clear hf0
  have hu98 := Try.underlying98
  have hu64 := Try.underlying64
  have hu62 := Try.underlying62
  have hu44 := Try.underlying44
  have hus := Try.underlying58
  go_enter Try.func57, Try.ntmps57
  go_wp2_with (first
    | ((with_reducible refine gate_dst (N := 3) rfl ?_); refine ev_box ?hg (N := 3) ?hd (cs := [.string y.key, .string y.val, .bool y.dead]) (t := 64) HS ?hr ?_; (case hd => rfl); (case hg => rfl); (case hr => first | (go_simp; done) | (go_simp; rfl)); intro g1 w2 HS_ hg_; clear hg_; clear HS; have HS : St w S w2 [HP.obj g1 64 [.string y.key, .string y.val, .bool y.dead], HP.obj gs 98 [.pointer (some ⟨gst, 0, none⟩), .slice Al ps.length cl, .slice Ar rcs.length cr, .map (some gf), .slice Ao ov.length co, .map (some gg), .int .i64 high], HP.row kLp 62 (.slice Al ps.length cl) ps, X] := HS_; clear HS_)
    | ((with_reducible refine gate_dst (N := 4) rfl ?_); refine ev_box ?hg (N := 4) ?hd (cs := [.int .i64 0, .int .i64 0, .int .i64 0, .int .i64 0, .int .i64 0, .int .i64 0, .int .i64 0, .int .i64 0, .bool false]) (t := 44) HS ?hr ?_; (case hd => rfl); (case hg => rfl); (case hr => first | (go_simp; done) | (go_simp; rfl)); intro g3 w4 HS_ hg_; clear hg_; clear HS; have HS : St w S w4 [HP.obj g3 44 [.int .i64 0, .int .i64 0, .int .i64 0, .int .i64 0, .int .i64 0, .int .i64 0, .int .i64 0, .int .i64 0, .bool false], HP.obj g1 64 [.string y.key, .string y.val, .bool y.dead], HP.obj gs 98 [.pointer (some ⟨gst, 0, none⟩), .slice Al ps.length cl, .slice Ar rcs.length cr, .map (some gf), .slice Ao ov.length co, .map (some gg), .int .i64 high], HP.row kLp 62 (.slice Al ps.length cl) ps, X] := HS_; clear HS_; have q5 := (HS.mv 2).cell 1))
  go_loopw [13] (fun v13 w' => ∃ k : Nat, k ≤ ps.length ∧ v13 = .int .i64 k ∧ Aside0 (((ps.drop k).map (·.l)).find? (meets y) = f0) ∧ St w S w' [HP.obj g1 64 [.string y.key, .string y.val, .bool y.dead], HP.obj g3 44 [.int .i64 0, .int .i64 0, .int .i64 0, .int .i64 0, .int .i64 0, .int .i64 0, .int .i64 0, .int .i64 0, .bool false], HP.obj gs 98 [.pointer (some ⟨gst, 0, none⟩), .slice Al ps.length cl, .slice Ar rcs.length cr, .map (some gf), .slice Ao ov.length co, .map (some gg), .int .i64 high], HP.row kLp 62 (.slice Al ps.length cl) ps, X]) (fun v13 _ => ps.length - (intOf v13).toNat)
  case atStart => exact ⟨0, Nat.zero_le _, rfl, HE, (((((HS.mv 4).mv 4).mv 4).mv 3).mv 4)⟩
  case round =>
    clear HS HE
    obtain ⟨k, hk, rfl, HE, HS⟩ := hrel
    have hk0 : (0 : Int) ≤ (k : Int) := by omega
    by_cases hlt : k < ps.length
    · skip
      have hltI : (k : Int) < (ps.length : Int) := by omega
      have hwk : IntKind.i64.wrap ((k : Int) + 1) = ((k + 1 : Nat) : Int) := by rw [IntWalk.i64_in _ (by omega)]; omega
      have hd : ps.drop k = ps[k] :: ps.drop (k + 1) := List.drop_eq_getElem_cons hlt
      have hp : ps[k]? = some ps[k] := List.getElem?_eq_getElem hlt
      have hm : ps[k] ∈ ps := List.getElem_mem hlt
      obtain ⟨p, hpe⟩ : ∃ p, ps[k] = p := ⟨_, rfl⟩
      rw [hpe] at hd hp hm
      obtain ⟨gl, cl_, ev⟩ := St.row_form (HS.mv 3) (by omega)
      simp only [Value.slice.injEq] at ev
      obtain ⟨rfl, -, rfl⟩ := ev
      have hfl := hWL.out p hm
      obtain ⟨l, u, v⟩ := p
      obtain ⟨A1, c1, A2, c2, hu_, -, -, hv_, -, -⟩ := sup_st HSUP.out (HS.mv 4) hm
      have hu2_ : u = .slice A1 l.sps.length c1 := hu_
      have hv2_ : v = .slice A2 l.wrs.length c2 := hv_
      clear hu_ hv_
      subst hu2_
      subst hv2_
      have HMEM := Aside0.mk hm
      have HC := Aside0.mk (fun (w' : World) (F : List HP) (h : St w S w' (HP.row kLp 62 (.slice (some ⟨gl, 0, none⟩) ps.length cl) ps :: F)) => (show w'.cell? ⟨gl, k * 7, none⟩ = some (.int .i64 l.t.a) ∧ w'.cell? ⟨gl, k * 7 + 1, none⟩ = some (.int .i64 l.t.b) ∧ w'.cell? ⟨gl, k * 7 + 2, none⟩ = some (.int .i64 l.t.c) ∧ w'.cell? ⟨gl, k * 7 + 3, none⟩ = some (.int .i64 l.home) ∧ w'.cell? ⟨gl, k * 7 + 4, none⟩ = some (.int .i64 l.til) ∧ w'.cell? ⟨gl, k * 7 + 5, none⟩ = some (.slice A1 l.sps.length c1) ∧ w'.cell? ⟨gl, k * 7 + 6, none⟩ = some (.slice A2 l.wrs.length c2) from Lp_row h k _ hp))
      have he := HE.out
      rw [hd, List.map_cons, List.find?_cons] at he
      clear hd hp hm hpe HE
      obtain ⟨b1, hb1⟩ : ∃ b1, l.wrs.any (fun x => decide (x.key = y.key)) = b1 := ⟨_, rfl⟩
      obtain ⟨b2, hb2⟩ : ∃ b2, l.sps.any (fun p => inside y.key p.a p.b) = b2 := ⟨_, rfl⟩
      have hb : meets y (⟨l, .slice A1 l.sps.length c1, .slice A2 l.wrs.length c2⟩ : Lp).l = (b1 || b2) := by show (l.wrs.any _ || l.sps.any _) = _; rw [hb1, hb2]
      rw [hb] at he
      have HI1 := Aside0.mk (show ∀ gr : Nat, FunV Try.prog 75 #[.slice A2 l.wrs.length c2, fcl 81 (.pointer (some ⟨gr, 0, none⟩))] (fun w => Kd.C kWr w A2 l.wrs.length l.wrs) [HP.obj gr 64 [.string y.key, .string y.val, .bool y.dead]] (.bool b1) [HP.obj gr 64 [.string y.key, .string y.val, .bool y.dead]] from by
        intro gr
        rw [← hb1]
        exact hasWr_fun 81 (.pointer (some ⟨gr, 0, none⟩)) (fun x => decide (x.key = y.key)) (HP.obj gr 64 [.string y.key, .string y.val, .bool y.dead]) (enters Try.func81 (by kernel_rfl) (by kernel_rfl)) (fun x => writeEq_fun gr y x) A2 c2 l.wrs (Nat.le_trans hfl.1 (by decide)))
      have HI2 := Aside0.mk (show ∀ gr : Nat, FunV Try.prog 82 #[.slice A1 l.sps.length c1, fcl 83 (.pointer (some ⟨gr, 0, none⟩))] (fun w => Kd.C kSp w A1 l.sps.length l.sps) [HP.obj gr 64 [.string y.key, .string y.val, .bool y.dead]] (.bool b2) [HP.obj gr 64 [.string y.key, .string y.val, .bool y.dead]] from by
        intro gr
        rw [← hb2]
        exact hasSp_fun 83 (.pointer (some ⟨gr, 0, none⟩)) (fun p => inside y.key p.a p.b) (HP.obj gr 64 [.string y.key, .string y.val, .bool y.dead]) (enters Try.func83 (by kernel_rfl) (by kernel_rfl)) (fun x => writeIn_fun gr y x) A1 c1 l.sps (Nat.le_trans hfl.2 (by decide)))
      clear hb hb1 hb2
      cases b1
      · cases b2
        · skip
          have HE2 := Aside0.mk (show ((ps.drop (k + 1)).map (·.l)).find? (meets y) = f0 from he)
          clear he
          obtain ⟨q6, q7, q8, q9, q10, q11, q12⟩ := HC.out _ _ (HS.mv 3)
          go_wp2_with (first
            | ((with_reducible refine gate_dst (N := 6) rfl ?_); refine ev_box ?hg (N := 6) ?hd (cs := [.int .i64 0, .int .i64 0, .int .i64 0, .int .i64 0, .int .i64 0, .slice none 0 0, .slice none 0 0]) (t := 62) HS ?hr ?_; (case hd => rfl); (case hg => rfl); (case hr => first | (go_simp; done) | (go_simp; rfl)); intro g13 w14 HS_ hg_; clear hg_; clear HS q6 q7 q8 q9 q10 q11 q12; have HS : St w S w14 [HP.obj g13 62 [.int .i64 0, .int .i64 0, .int .i64 0, .int .i64 0, .int .i64 0, .slice none 0 0, .slice none 0 0], HP.obj g1 64 [.string y.key, .string y.val, .bool y.dead], HP.obj g3 44 [.int .i64 0, .int .i64 0, .int .i64 0, .int .i64 0, .int .i64 0, .int .i64 0, .int .i64 0, .int .i64 0, .bool false], HP.obj gs 98 [.pointer (some ⟨gst, 0, none⟩), .slice (some ⟨gl, 0, none⟩) ps.length cl, .slice Ar rcs.length cr, .map (some gf), .slice Ao ov.length co, .map (some gg), .int .i64 high], HP.row kLp 62 (.slice (some ⟨gl, 0, none⟩) ps.length cl) ps, X] := HS_; clear HS_)
            | ((with_reducible refine gate_ (.store 62 (.tmp 6) (.tmp 16)) rfl ?_); refine ev_store2 rfl rfl 62 (.tmp 6) (.tmp 16) rfl [.int .i64 l.t.a, .int .i64 l.t.b, .int .i64 l.t.c, .int .i64 l.home, .int .i64 l.til, .slice A1 l.sps.length c1, .slice A2 l.wrs.length c2] HS (g := g13) (j := 0) rfl rfl (seg := [.int .i64 l.t.a, .int .i64 l.t.b, .int .i64 l.t.c, .int .i64 l.home, .int .i64 l.til, .slice A1 l.sps.length c1, .slice A2 l.wrs.length c2]) rfl ?ht rfl ?hf ?he ?_; (case ht => exact szShD62); (case he => kernel_rfl); (case hf => first | (simp; done) | (simp [splice]; done)); intro w15 HS_; clear HS; have HS : St w S w15 [HP.obj g13 62 [.int .i64 l.t.a, .int .i64 l.t.b, .int .i64 l.t.c, .int .i64 l.home, .int .i64 l.til, .slice A1 l.sps.length c1, .slice A2 l.wrs.length c2], HP.obj g1 64 [.string y.key, .string y.val, .bool y.dead], HP.obj g3 44 [.int .i64 0, .int .i64 0, .int .i64 0, .int .i64 0, .int .i64 0, .int .i64 0, .int .i64 0, .int .i64 0, .bool false], HP.obj gs 98 [.pointer (some ⟨gst, 0, none⟩), .slice (some ⟨gl, 0, none⟩) ps.length cl, .slice Ar rcs.length cr, .map (some gf), .slice Ao ov.length co, .map (some gg), .int .i64 high], HP.row kLp 62 (.slice (some ⟨gl, 0, none⟩) ps.length cl) ps, X] := HS_; clear HS_; have q16 := HS.cell 6))
          refine ((HI1.out g1).call (F := [HP.obj g13 62 [.int .i64 l.t.a, .int .i64 l.t.b, .int .i64 l.t.c, .int .i64 l.home, .int .i64 l.til, .slice A1 l.sps.length c1, .slice A2 l.wrs.length c2], HP.obj g3 44 [.int .i64 0, .int .i64 0, .int .i64 0, .int .i64 0, .int .i64 0, .int .i64 0, .int .i64 0, .int .i64 0, .bool false], HP.obj gs 98 [.pointer (some ⟨gst, 0, none⟩), .slice (some ⟨gl, 0, none⟩) ps.length cl, .slice Ar rcs.length cr, .map (some gf), .slice Ao ov.length co, .map (some gg), .int .i64 high], HP.row kLp 62 (.slice (some ⟨gl, 0, none⟩) ps.length cl) ps, X]) (HS.mv 1) (fun w_ S_ _ hF_ => held_v (sup_at HSUP.out hF_ 4 rfl HMEM.out))).mono ?_
          rintro e_ w17 ⟨rfl, HS_⟩
          clear HS q16
          have HS : St w S w17 [HP.obj g1 64 [.string y.key, .string y.val, .bool y.dead], HP.obj g13 62 [.int .i64 l.t.a, .int .i64 l.t.b, .int .i64 l.t.c, .int .i64 l.home, .int .i64 l.til, .slice A1 l.sps.length c1, .slice A2 l.wrs.length c2], HP.obj g3 44 [.int .i64 0, .int .i64 0, .int .i64 0, .int .i64 0, .int .i64 0, .int .i64 0, .int .i64 0, .int .i64 0, .bool false], HP.obj gs 98 [.pointer (some ⟨gst, 0, none⟩), .slice (some ⟨gl, 0, none⟩) ps.length cl, .slice Ar rcs.length cr, .map (some gf), .slice Ao ov.length co, .map (some gg), .int .i64 high], HP.row kLp 62 (.slice (some ⟨gl, 0, none⟩) ps.length cl) ps, X] := HS_
          clear HS_
          have q18 := (HS.mv 1).cell 5
          go_wp2_with fail
          refine ((HI2.out g1).call (F := [HP.obj g13 62 [.int .i64 l.t.a, .int .i64 l.t.b, .int .i64 l.t.c, .int .i64 l.home, .int .i64 l.til, .slice A1 l.sps.length c1, .slice A2 l.wrs.length c2], HP.obj g3 44 [.int .i64 0, .int .i64 0, .int .i64 0, .int .i64 0, .int .i64 0, .int .i64 0, .int .i64 0, .int .i64 0, .bool false], HP.obj gs 98 [.pointer (some ⟨gst, 0, none⟩), .slice (some ⟨gl, 0, none⟩) ps.length cl, .slice Ar rcs.length cr, .map (some gf), .slice Ao ov.length co, .map (some gg), .int .i64 high], HP.row kLp 62 (.slice (some ⟨gl, 0, none⟩) ps.length cl) ps, X]) HS (fun w_ S_ _ hF_ => held_u (sup_at HSUP.out hF_ 4 rfl HMEM.out))).mono ?_
          rintro e_ w19 ⟨rfl, HS_⟩
          clear HS q18
          have HS : St w S w19 [HP.obj g1 64 [.string y.key, .string y.val, .bool y.dead], HP.obj g13 62 [.int .i64 l.t.a, .int .i64 l.t.b, .int .i64 l.t.c, .int .i64 l.home, .int .i64 l.til, .slice A1 l.sps.length c1, .slice A2 l.wrs.length c2], HP.obj g3 44 [.int .i64 0, .int .i64 0, .int .i64 0, .int .i64 0, .int .i64 0, .int .i64 0, .int .i64 0, .int .i64 0, .bool false], HP.obj gs 98 [.pointer (some ⟨gst, 0, none⟩), .slice (some ⟨gl, 0, none⟩) ps.length cl, .slice Ar rcs.length cr, .map (some gf), .slice Ao ov.length co, .map (some gg), .int .i64 high], HP.row kLp 62 (.slice (some ⟨gl, 0, none⟩) ps.length cl) ps, X] := HS_
          clear HS_
          go_wp2_with fail
          go_roundw
          case rel => exact ⟨k + 1, by omega, by go_num, HE2, (HS.out 1)⟩
          case measure => simp [intOf]; omega
        · skip
          have HE2 := Aside0.mk (show some l = f0 from he)
          clear he
          obtain rfl := HE2.out
          obtain ⟨q20, q21, q22, q23, q24, q25, q26⟩ := HC.out _ _ (HS.mv 3)
          go_wp2_with (first
            | ((with_reducible refine gate_dst (N := 6) rfl ?_); refine ev_box ?hg (N := 6) ?hd (cs := [.int .i64 0, .int .i64 0, .int .i64 0, .int .i64 0, .int .i64 0, .slice none 0 0, .slice none 0 0]) (t := 62) HS ?hr ?_; (case hd => rfl); (case hg => rfl); (case hr => first | (go_simp; done) | (go_simp; rfl)); intro g27 w28 HS_ hg_; clear hg_; clear HS q20 q21 q22 q23 q24 q25 q26; have HS : St w S w28 [HP.obj g27 62 [.int .i64 0, .int .i64 0, .int .i64 0, .int .i64 0, .int .i64 0, .slice none 0 0, .slice none 0 0], HP.obj g1 64 [.string y.key, .string y.val, .bool y.dead], HP.obj g3 44 [.int .i64 0, .int .i64 0, .int .i64 0, .int .i64 0, .int .i64 0, .int .i64 0, .int .i64 0, .int .i64 0, .bool false], HP.obj gs 98 [.pointer (some ⟨gst, 0, none⟩), .slice (some ⟨gl, 0, none⟩) ps.length cl, .slice Ar rcs.length cr, .map (some gf), .slice Ao ov.length co, .map (some gg), .int .i64 high], HP.row kLp 62 (.slice (some ⟨gl, 0, none⟩) ps.length cl) ps, X] := HS_; clear HS_)
            | ((with_reducible refine gate_ (.store 62 (.tmp 6) (.tmp 16)) rfl ?_); refine ev_store2 rfl rfl 62 (.tmp 6) (.tmp 16) rfl [.int .i64 l.t.a, .int .i64 l.t.b, .int .i64 l.t.c, .int .i64 l.home, .int .i64 l.til, .slice A1 l.sps.length c1, .slice A2 l.wrs.length c2] HS (g := g27) (j := 0) rfl rfl (seg := [.int .i64 l.t.a, .int .i64 l.t.b, .int .i64 l.t.c, .int .i64 l.home, .int .i64 l.til, .slice A1 l.sps.length c1, .slice A2 l.wrs.length c2]) rfl ?ht rfl ?hf ?he ?_; (case ht => exact szShD62); (case he => kernel_rfl); (case hf => first | (simp; done) | (simp [splice]; done)); intro w29 HS_; clear HS; have HS : St w S w29 [HP.obj g27 62 [.int .i64 l.t.a, .int .i64 l.t.b, .int .i64 l.t.c, .int .i64 l.home, .int .i64 l.til, .slice A1 l.sps.length c1, .slice A2 l.wrs.length c2], HP.obj g1 64 [.string y.key, .string y.val, .bool y.dead], HP.obj g3 44 [.int .i64 0, .int .i64 0, .int .i64 0, .int .i64 0, .int .i64 0, .int .i64 0, .int .i64 0, .int .i64 0, .bool false], HP.obj gs 98 [.pointer (some ⟨gst, 0, none⟩), .slice (some ⟨gl, 0, none⟩) ps.length cl, .slice Ar rcs.length cr, .map (some gf), .slice Ao ov.length co, .map (some gg), .int .i64 high], HP.row kLp 62 (.slice (some ⟨gl, 0, none⟩) ps.length cl) ps, X] := HS_; clear HS_; have q30 := HS.cell 6))
          refine ((HI1.out g1).call (F := [HP.obj g27 62 [.int .i64 l.t.a, .int .i64 l.t.b, .int .i64 l.t.c, .int .i64 l.home, .int .i64 l.til, .slice A1 l.sps.length c1, .slice A2 l.wrs.length c2], HP.obj g3 44 [.int .i64 0, .int .i64 0, .int .i64 0, .int .i64 0, .int .i64 0, .int .i64 0, .int .i64 0, .int .i64 0, .bool false], HP.obj gs 98 [.pointer (some ⟨gst, 0, none⟩), .slice (some ⟨gl, 0, none⟩) ps.length cl, .slice Ar rcs.length cr, .map (some gf), .slice Ao ov.length co, .map (some gg), .int .i64 high], HP.row kLp 62 (.slice (some ⟨gl, 0, none⟩) ps.length cl) ps, X]) (HS.mv 1) (fun w_ S_ _ hF_ => held_v (sup_at HSUP.out hF_ 4 rfl HMEM.out))).mono ?_
          rintro e_ w31 ⟨rfl, HS_⟩
          clear HS q30
          have HS : St w S w31 [HP.obj g1 64 [.string y.key, .string y.val, .bool y.dead], HP.obj g27 62 [.int .i64 l.t.a, .int .i64 l.t.b, .int .i64 l.t.c, .int .i64 l.home, .int .i64 l.til, .slice A1 l.sps.length c1, .slice A2 l.wrs.length c2], HP.obj g3 44 [.int .i64 0, .int .i64 0, .int .i64 0, .int .i64 0, .int .i64 0, .int .i64 0, .int .i64 0, .int .i64 0, .bool false], HP.obj gs 98 [.pointer (some ⟨gst, 0, none⟩), .slice (some ⟨gl, 0, none⟩) ps.length cl, .slice Ar rcs.length cr, .map (some gf), .slice Ao ov.length co, .map (some gg), .int .i64 high], HP.row kLp 62 (.slice (some ⟨gl, 0, none⟩) ps.length cl) ps, X] := HS_
          clear HS_
          have q32 := (HS.mv 1).cell 5
          go_wp2_with fail
          refine ((HI2.out g1).call (F := [HP.obj g27 62 [.int .i64 l.t.a, .int .i64 l.t.b, .int .i64 l.t.c, .int .i64 l.home, .int .i64 l.til, .slice A1 l.sps.length c1, .slice A2 l.wrs.length c2], HP.obj g3 44 [.int .i64 0, .int .i64 0, .int .i64 0, .int .i64 0, .int .i64 0, .int .i64 0, .int .i64 0, .int .i64 0, .bool false], HP.obj gs 98 [.pointer (some ⟨gst, 0, none⟩), .slice (some ⟨gl, 0, none⟩) ps.length cl, .slice Ar rcs.length cr, .map (some gf), .slice Ao ov.length co, .map (some gg), .int .i64 high], HP.row kLp 62 (.slice (some ⟨gl, 0, none⟩) ps.length cl) ps, X]) HS (fun w_ S_ _ hF_ => held_u (sup_at HSUP.out hF_ 4 rfl HMEM.out))).mono ?_
          rintro e_ w33 ⟨rfl, HS_⟩
          clear HS q32
          have HS : St w S w33 [HP.obj g1 64 [.string y.key, .string y.val, .bool y.dead], HP.obj g27 62 [.int .i64 l.t.a, .int .i64 l.t.b, .int .i64 l.t.c, .int .i64 l.home, .int .i64 l.til, .slice A1 l.sps.length c1, .slice A2 l.wrs.length c2], HP.obj g3 44 [.int .i64 0, .int .i64 0, .int .i64 0, .int .i64 0, .int .i64 0, .int .i64 0, .int .i64 0, .int .i64 0, .bool false], HP.obj gs 98 [.pointer (some ⟨gst, 0, none⟩), .slice (some ⟨gl, 0, none⟩) ps.length cl, .slice Ar rcs.length cr, .map (some gf), .slice Ao ov.length co, .map (some gg), .int .i64 high], HP.row kLp 62 (.slice (some ⟨gl, 0, none⟩) ps.length cl) ps, X] := HS_
          clear HS_
          have q34 := (HS.mv 1).cell 0
          have q35 := (HS.mv 1).cell 1
          have q36 := (HS.mv 1).cell 2
          have q37 := (HS.mv 1).cell 3
          have q38 := (HS.mv 1).cell 4
          have q39 := (HS.mv 1).cell 5
          have q40 := (HS.mv 1).cell 6
          go_wp2_with fail
          refine ((busy_fun ⟨l, .slice A1 l.sps.length c1, .slice A2 l.wrs.length c2⟩).call (F := [HP.obj g1 64 [.string y.key, .string y.val, .bool y.dead], HP.obj g27 62 [.int .i64 l.t.a, .int .i64 l.t.b, .int .i64 l.t.c, .int .i64 l.home, .int .i64 l.til, .slice A1 l.sps.length c1, .slice A2 l.wrs.length c2], HP.obj g3 44 [.int .i64 0, .int .i64 0, .int .i64 0, .int .i64 0, .int .i64 0, .int .i64 0, .int .i64 0, .int .i64 0, .bool false], HP.obj gs 98 [.pointer (some ⟨gst, 0, none⟩), .slice (some ⟨gl, 0, none⟩) ps.length cl, .slice Ar rcs.length cr, .map (some gf), .slice Ao ov.length co, .map (some gg), .int .i64 high], HP.row kLp 62 (.slice (some ⟨gl, 0, none⟩) ps.length cl) ps, X]) HS (fun _ _ _ _ => trivial)).mono ?_
          rintro e_ w41 ⟨rfl, HS_⟩
          clear HS q34 q35 q36 q37 q38 q39 q40
          have HS : St w S w41 [HP.obj g1 64 [.string y.key, .string y.val, .bool y.dead], HP.obj g27 62 [.int .i64 l.t.a, .int .i64 l.t.b, .int .i64 l.t.c, .int .i64 l.home, .int .i64 l.til, .slice A1 l.sps.length c1, .slice A2 l.wrs.length c2], HP.obj g3 44 [.int .i64 0, .int .i64 0, .int .i64 0, .int .i64 0, .int .i64 0, .int .i64 0, .int .i64 0, .int .i64 0, .bool false], HP.obj gs 98 [.pointer (some ⟨gst, 0, none⟩), .slice (some ⟨gl, 0, none⟩) ps.length cl, .slice Ar rcs.length cr, .map (some gf), .slice Ao ov.length co, .map (some gg), .int .i64 high], HP.row kLp 62 (.slice (some ⟨gl, 0, none⟩) ps.length cl) ps, X] := HS_
          clear HS_
          go_wp2_with (first
            | ((with_reducible refine gate_ (.store 44 (.tmp 4) (.tmp 29)) rfl ?_); refine ev_store2 rfl rfl 44 (.tmp 4) (.tmp 29) rfl [.int .i64 131, .int .i64 0, .int .i64 l.t.a, .int .i64 l.t.b, .int .i64 l.t.c, .int .i64 0, .int .i64 l.til, .int .i64 0, .bool false] (HS.mv 2) (g := g3) (j := 0) rfl rfl (seg := [.int .i64 131, .int .i64 0, .int .i64 l.t.a, .int .i64 l.t.b, .int .i64 l.t.c, .int .i64 0, .int .i64 l.til, .int .i64 0, .bool false]) rfl ?ht rfl ?hf ?he ?_; (case ht => exact szShD44); (case he => kernel_rfl); (case hf => first | (simp; done) | (simp [splice]; done)); intro w42 HS_; clear HS; have HS : St w S w42 [HP.obj g3 44 [.int .i64 131, .int .i64 0, .int .i64 l.t.a, .int .i64 l.t.b, .int .i64 l.t.c, .int .i64 0, .int .i64 l.til, .int .i64 0, .bool false], HP.obj g1 64 [.string y.key, .string y.val, .bool y.dead], HP.obj g27 62 [.int .i64 l.t.a, .int .i64 l.t.b, .int .i64 l.t.c, .int .i64 l.home, .int .i64 l.til, .slice A1 l.sps.length c1, .slice A2 l.wrs.length c2], HP.obj gs 98 [.pointer (some ⟨gst, 0, none⟩), .slice (some ⟨gl, 0, none⟩) ps.length cl, .slice Ar rcs.length cr, .map (some gf), .slice Ao ov.length co, .map (some gg), .int .i64 high], HP.row kLp 62 (.slice (some ⟨gl, 0, none⟩) ps.length cl) ps, X] := HS_; clear HS_))
          have HB := HS.blk
          try simp only [Exit.inBlock, Exit.then]
          refine bodyPost_ret (results_cell_row rfl _ _ g3 44 #[.int .i64 131, .int .i64 0, .int .i64 l.t.a, .int .i64 l.t.b, .int .i64 l.t.c, .int .i64 0, .int .i64 l.til, .int .i64 0, .bool false] (0, 0) _ rfl HB Try.underlying44 rfl (by kernel_rfl)) rfl ?_
          exact ⟨rfl, (((HS.out 0).out 0).out 0)⟩
      · skip
        have HE2 := Aside0.mk (show some l = f0 from he)
        clear he
        obtain rfl := HE2.out
        obtain ⟨q43, q44, q45, q46, q47, q48, q49⟩ := HC.out _ _ (HS.mv 3)
        go_wp2_with (first
          | ((with_reducible refine gate_dst (N := 6) rfl ?_); refine ev_box ?hg (N := 6) ?hd (cs := [.int .i64 0, .int .i64 0, .int .i64 0, .int .i64 0, .int .i64 0, .slice none 0 0, .slice none 0 0]) (t := 62) HS ?hr ?_; (case hd => rfl); (case hg => rfl); (case hr => first | (go_simp; done) | (go_simp; rfl)); intro g50 w51 HS_ hg_; clear hg_; clear HS q43 q44 q45 q46 q47 q48 q49; have HS : St w S w51 [HP.obj g50 62 [.int .i64 0, .int .i64 0, .int .i64 0, .int .i64 0, .int .i64 0, .slice none 0 0, .slice none 0 0], HP.obj g1 64 [.string y.key, .string y.val, .bool y.dead], HP.obj g3 44 [.int .i64 0, .int .i64 0, .int .i64 0, .int .i64 0, .int .i64 0, .int .i64 0, .int .i64 0, .int .i64 0, .bool false], HP.obj gs 98 [.pointer (some ⟨gst, 0, none⟩), .slice (some ⟨gl, 0, none⟩) ps.length cl, .slice Ar rcs.length cr, .map (some gf), .slice Ao ov.length co, .map (some gg), .int .i64 high], HP.row kLp 62 (.slice (some ⟨gl, 0, none⟩) ps.length cl) ps, X] := HS_; clear HS_)
          | ((with_reducible refine gate_ (.store 62 (.tmp 6) (.tmp 16)) rfl ?_); refine ev_store2 rfl rfl 62 (.tmp 6) (.tmp 16) rfl [.int .i64 l.t.a, .int .i64 l.t.b, .int .i64 l.t.c, .int .i64 l.home, .int .i64 l.til, .slice A1 l.sps.length c1, .slice A2 l.wrs.length c2] HS (g := g50) (j := 0) rfl rfl (seg := [.int .i64 l.t.a, .int .i64 l.t.b, .int .i64 l.t.c, .int .i64 l.home, .int .i64 l.til, .slice A1 l.sps.length c1, .slice A2 l.wrs.length c2]) rfl ?ht rfl ?hf ?he ?_; (case ht => exact szShD62); (case he => kernel_rfl); (case hf => first | (simp; done) | (simp [splice]; done)); intro w52 HS_; clear HS; have HS : St w S w52 [HP.obj g50 62 [.int .i64 l.t.a, .int .i64 l.t.b, .int .i64 l.t.c, .int .i64 l.home, .int .i64 l.til, .slice A1 l.sps.length c1, .slice A2 l.wrs.length c2], HP.obj g1 64 [.string y.key, .string y.val, .bool y.dead], HP.obj g3 44 [.int .i64 0, .int .i64 0, .int .i64 0, .int .i64 0, .int .i64 0, .int .i64 0, .int .i64 0, .int .i64 0, .bool false], HP.obj gs 98 [.pointer (some ⟨gst, 0, none⟩), .slice (some ⟨gl, 0, none⟩) ps.length cl, .slice Ar rcs.length cr, .map (some gf), .slice Ao ov.length co, .map (some gg), .int .i64 high], HP.row kLp 62 (.slice (some ⟨gl, 0, none⟩) ps.length cl) ps, X] := HS_; clear HS_; have q53 := HS.cell 6))
        refine ((HI1.out g1).call (F := [HP.obj g50 62 [.int .i64 l.t.a, .int .i64 l.t.b, .int .i64 l.t.c, .int .i64 l.home, .int .i64 l.til, .slice A1 l.sps.length c1, .slice A2 l.wrs.length c2], HP.obj g3 44 [.int .i64 0, .int .i64 0, .int .i64 0, .int .i64 0, .int .i64 0, .int .i64 0, .int .i64 0, .int .i64 0, .bool false], HP.obj gs 98 [.pointer (some ⟨gst, 0, none⟩), .slice (some ⟨gl, 0, none⟩) ps.length cl, .slice Ar rcs.length cr, .map (some gf), .slice Ao ov.length co, .map (some gg), .int .i64 high], HP.row kLp 62 (.slice (some ⟨gl, 0, none⟩) ps.length cl) ps, X]) (HS.mv 1) (fun w_ S_ _ hF_ => held_v (sup_at HSUP.out hF_ 4 rfl HMEM.out))).mono ?_
        rintro e_ w54 ⟨rfl, HS_⟩
        clear HS q53
        have HS : St w S w54 [HP.obj g1 64 [.string y.key, .string y.val, .bool y.dead], HP.obj g50 62 [.int .i64 l.t.a, .int .i64 l.t.b, .int .i64 l.t.c, .int .i64 l.home, .int .i64 l.til, .slice A1 l.sps.length c1, .slice A2 l.wrs.length c2], HP.obj g3 44 [.int .i64 0, .int .i64 0, .int .i64 0, .int .i64 0, .int .i64 0, .int .i64 0, .int .i64 0, .int .i64 0, .bool false], HP.obj gs 98 [.pointer (some ⟨gst, 0, none⟩), .slice (some ⟨gl, 0, none⟩) ps.length cl, .slice Ar rcs.length cr, .map (some gf), .slice Ao ov.length co, .map (some gg), .int .i64 high], HP.row kLp 62 (.slice (some ⟨gl, 0, none⟩) ps.length cl) ps, X] := HS_
        clear HS_
        have q55 := (HS.mv 1).cell 0
        have q56 := (HS.mv 1).cell 1
        have q57 := (HS.mv 1).cell 2
        have q58 := (HS.mv 1).cell 3
        have q59 := (HS.mv 1).cell 4
        have q60 := (HS.mv 1).cell 5
        have q61 := (HS.mv 1).cell 6
        go_wp2_with fail
        refine ((busy_fun ⟨l, .slice A1 l.sps.length c1, .slice A2 l.wrs.length c2⟩).call (F := [HP.obj g1 64 [.string y.key, .string y.val, .bool y.dead], HP.obj g50 62 [.int .i64 l.t.a, .int .i64 l.t.b, .int .i64 l.t.c, .int .i64 l.home, .int .i64 l.til, .slice A1 l.sps.length c1, .slice A2 l.wrs.length c2], HP.obj g3 44 [.int .i64 0, .int .i64 0, .int .i64 0, .int .i64 0, .int .i64 0, .int .i64 0, .int .i64 0, .int .i64 0, .bool false], HP.obj gs 98 [.pointer (some ⟨gst, 0, none⟩), .slice (some ⟨gl, 0, none⟩) ps.length cl, .slice Ar rcs.length cr, .map (some gf), .slice Ao ov.length co, .map (some gg), .int .i64 high], HP.row kLp 62 (.slice (some ⟨gl, 0, none⟩) ps.length cl) ps, X]) HS (fun _ _ _ _ => trivial)).mono ?_
        rintro e_ w62 ⟨rfl, HS_⟩
        clear HS q55 q56 q57 q58 q59 q60 q61
        have HS : St w S w62 [HP.obj g1 64 [.string y.key, .string y.val, .bool y.dead], HP.obj g50 62 [.int .i64 l.t.a, .int .i64 l.t.b, .int .i64 l.t.c, .int .i64 l.home, .int .i64 l.til, .slice A1 l.sps.length c1, .slice A2 l.wrs.length c2], HP.obj g3 44 [.int .i64 0, .int .i64 0, .int .i64 0, .int .i64 0, .int .i64 0, .int .i64 0, .int .i64 0, .int .i64 0, .bool false], HP.obj gs 98 [.pointer (some ⟨gst, 0, none⟩), .slice (some ⟨gl, 0, none⟩) ps.length cl, .slice Ar rcs.length cr, .map (some gf), .slice Ao ov.length co, .map (some gg), .int .i64 high], HP.row kLp 62 (.slice (some ⟨gl, 0, none⟩) ps.length cl) ps, X] := HS_
        clear HS_
        go_wp2_with (first
          | ((with_reducible refine gate_ (.store 44 (.tmp 4) (.tmp 29)) rfl ?_); refine ev_store2 rfl rfl 44 (.tmp 4) (.tmp 29) rfl [.int .i64 131, .int .i64 0, .int .i64 l.t.a, .int .i64 l.t.b, .int .i64 l.t.c, .int .i64 0, .int .i64 l.til, .int .i64 0, .bool false] (HS.mv 2) (g := g3) (j := 0) rfl rfl (seg := [.int .i64 131, .int .i64 0, .int .i64 l.t.a, .int .i64 l.t.b, .int .i64 l.t.c, .int .i64 0, .int .i64 l.til, .int .i64 0, .bool false]) rfl ?ht rfl ?hf ?he ?_; (case ht => exact szShD44); (case he => kernel_rfl); (case hf => first | (simp; done) | (simp [splice]; done)); intro w63 HS_; clear HS; have HS : St w S w63 [HP.obj g3 44 [.int .i64 131, .int .i64 0, .int .i64 l.t.a, .int .i64 l.t.b, .int .i64 l.t.c, .int .i64 0, .int .i64 l.til, .int .i64 0, .bool false], HP.obj g1 64 [.string y.key, .string y.val, .bool y.dead], HP.obj g50 62 [.int .i64 l.t.a, .int .i64 l.t.b, .int .i64 l.t.c, .int .i64 l.home, .int .i64 l.til, .slice A1 l.sps.length c1, .slice A2 l.wrs.length c2], HP.obj gs 98 [.pointer (some ⟨gst, 0, none⟩), .slice (some ⟨gl, 0, none⟩) ps.length cl, .slice Ar rcs.length cr, .map (some gf), .slice Ao ov.length co, .map (some gg), .int .i64 high], HP.row kLp 62 (.slice (some ⟨gl, 0, none⟩) ps.length cl) ps, X] := HS_; clear HS_))
        have HB := HS.blk
        try simp only [Exit.inBlock, Exit.then]
        refine bodyPost_ret (results_cell_row rfl _ _ g3 44 #[.int .i64 131, .int .i64 0, .int .i64 l.t.a, .int .i64 l.t.b, .int .i64 l.t.c, .int .i64 0, .int .i64 l.til, .int .i64 0, .bool false] (0, 0) _ rfl HB Try.underlying44 rfl (by kernel_rfl)) rfl ?_
        exact ⟨rfl, (((HS.out 0).out 0).out 0)⟩
    · have hltI : ¬ (k : Int) < (ps.length : Int) := by omega
      have HE2 := Aside0.mk (show none = f0 by have he := HE.out; rw [List.drop_eq_nil_of_le (by omega)] at he; exact he)
      clear HE
      obtain rfl := HE2.out
      go_wp2_with (first
        | ((with_reducible refine gate_ (.store 44 (.tmp 4) (.tmp 31)) rfl ?_); refine ev_store2 rfl rfl 44 (.tmp 4) (.tmp 31) rfl [.int .i64 0, .int .i64 0, .int .i64 0, .int .i64 0, .int .i64 0, .int .i64 0, .int .i64 0, .int .i64 0, .bool false] (HS.mv 1) (g := g3) (j := 0) rfl rfl (seg := [.int .i64 0, .int .i64 0, .int .i64 0, .int .i64 0, .int .i64 0, .int .i64 0, .int .i64 0, .int .i64 0, .bool false]) rfl ?ht rfl ?hf ?he ?_; (case ht => exact szShD44); (case he => kernel_rfl); (case hf => first | (simp; done) | (simp [splice]; done)); intro w64 HS_; clear HS; have HS : St w S w64 [HP.obj g3 44 [.int .i64 0, .int .i64 0, .int .i64 0, .int .i64 0, .int .i64 0, .int .i64 0, .int .i64 0, .int .i64 0, .bool false], HP.obj g1 64 [.string y.key, .string y.val, .bool y.dead], HP.obj gs 98 [.pointer (some ⟨gst, 0, none⟩), .slice Al ps.length cl, .slice Ar rcs.length cr, .map (some gf), .slice Ao ov.length co, .map (some gg), .int .i64 high], HP.row kLp 62 (.slice Al ps.length cl) ps, X] := HS_; clear HS_))
      have HB := HS.blk
      try simp only [Exit.inBlock, Exit.then]
      refine bodyPost_ret (results_cell_row rfl _ _ g3 44 #[.int .i64 0, .int .i64 0, .int .i64 0, .int .i64 0, .int .i64 0, .int .i64 0, .int .i64 0, .int .i64 0, .bool false] (0, 0) _ rfl HB Try.underlying44 rfl (by kernel_rfl)) rfl ?_
      exact ⟨rfl, ((HS.out 0).out 0)⟩
end Go.Proofs.Ytphenpncdhgdhaa.Shd
