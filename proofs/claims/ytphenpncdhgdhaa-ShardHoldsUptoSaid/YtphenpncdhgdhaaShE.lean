/- The shard's memory as one; New, walked. -/
import Derived.Test.YtphenpncdhgdhaaShD
namespace Go.Proofs.Ytphenpncdhgdhaa.Shd
open Go.RowKit Go.Proofs.YtphenpncdhgdhaaW.PrintWords Go.Proofs.YtphenpncdhgdhaaW.PrintLast Go.Proofs.YtphenpncdhgdhaaW.PrintMore Go.Proofs.Ytphenpncdhgdhaa.Sl Go.Proofs.Ytphenpncdhgdhaa.Str Go.Proofs.Ytphenpncdhgdhaa.Ver
set_option linter.unusedVariables false
set_option linter.unusedSimpArgs false
/-- Where a shard lies. -/
structure Me where
  gst : Nat
  gf : Nat
  gg : Nat
  Al : Option Addr
  cl : Nat
  Ar : Option Addr
  cr : Nat
  Ao : Option Addr
  co : Nat
  ps : List Lp
  X : HP
/-- A shard. -/
def shH (gs : Nat) (m : Sh) : HP := HP.ex fun e : Me => HP.and (Sup e.X e.ps ∧ e.ps.map (·.l) = m.lks) (Sl.all [HP.obj gs 98 [.pointer (some ⟨e.gst, 0, none⟩), .slice e.Al e.ps.length e.cl, .slice e.Ar m.rcs.length e.cr, .map (some e.gf), .slice e.Ao m.ov.length e.co, .map (some e.gg), .int .i64 m.high], someH e.gst m.rows, HP.row kLp 62 (.slice e.Al e.ps.length e.cl) e.ps, e.X, HP.row kRc 109 (.slice e.Ar m.rcs.length e.cr) m.rcs, mapK e.gf ekT evI (fnd m.rcs), HP.row kTd 26 (.slice e.Ao m.ov.length e.co) m.ov, mapK e.gg ekT evB (gon m.ov)])
theorem shH_open {gs : Nat} {m : Sh} {w0 w : World} {S0 : Nat → Prop} {F : List HP} (h : St w0 S0 w (shH gs m :: F)) : ∃ (gst gf gg : Nat) (Al : Option Addr) (cl : Nat) (Ar : Option Addr) (cr : Nat) (Ao : Option Addr) (co : Nat) (ps : List Lp) (X : HP),
    Sup X ps ∧ ps.map (·.l) = m.lks ∧ St w0 S0 w (HP.obj gs 98 [.pointer (some ⟨gst, 0, none⟩), .slice Al ps.length cl, .slice Ar m.rcs.length cr, .map (some gf), .slice Ao m.ov.length co, .map (some gg), .int .i64 m.high] :: someH gst m.rows :: HP.row kLp 62 (.slice Al ps.length cl) ps :: X :: HP.row kRc 109 (.slice Ar m.rcs.length cr) m.rcs :: mapK gf ekT evI (fnd m.rcs) :: HP.row kTd 26 (.slice Ao m.ov.length co) m.ov :: mapK gg ekT evB (gon m.ov) :: F) := by
  obtain ⟨e, h⟩ := St.ex_ h
  obtain ⟨⟨h1, h2⟩, h⟩ := St.and_ h
  exact ⟨e.gst, e.gf, e.gg, e.Al, e.cl, e.Ar, e.cr, e.Ao, e.co, e.ps, e.X, h1, h2, St.all_ h⟩
theorem shH_shut {gs : Nat} {m : Sh} {w0 w : World} {S0 : Nat → Prop} {F : List HP} {gst gf gg : Nat} {Al : Option Addr} {cl : Nat} {Ar : Option Addr} {cr : Nat} {Ao : Option Addr} {co : Nat} {ps : List Lp} {X : HP} (h1 : Sup X ps) (h2 : ps.map (·.l) = m.lks)
    (h : St w0 S0 w (HP.obj gs 98 [.pointer (some ⟨gst, 0, none⟩), .slice Al ps.length cl, .slice Ar m.rcs.length cr, .map (some gf), .slice Ao m.ov.length co, .map (some gg), .int .i64 m.high] :: someH gst m.rows :: HP.row kLp 62 (.slice Al ps.length cl) ps :: X :: HP.row kRc 109 (.slice Ar m.rcs.length cr) m.rcs :: mapK gf ekT evI (fnd m.rcs) :: HP.row kTd 26 (.slice Ao m.ov.length co) m.ov :: mapK gg ekT evB (gon m.ov) :: F)) : St w0 S0 w (shH gs m :: F) :=
  St.ex_in ⟨gst, gf, gg, Al, cl, Ar, cr, Ao, co, ps, X⟩ (St.and_in ⟨h1, h2⟩ (St.unall (L := [_, _, _, _, _, _, _, _]) h))
theorem lw_mem {lks : List Lk} {l : Lk} (h : l ∈ lks) : l.wrs.length ≤ lw lks := by
  induction lks with
  | nil => simp at h
  | cons q r ih =>
    simp only [lw, List.map_cons, List.sum_cons]
    cases h with
    | head => omega
    | tail _ h =>
      have := ih h
      simp only [lw] at this
      omega
theorem Fit.wl {m : Sh} {n : Nat} (hf : Fit m n) {ps : List Lp} (e : ps.map (·.l) = m.lks) : ∀ p ∈ ps, p.l.wrs.length ≤ n ∧ p.l.sps.length ≤ n := fun p hp => by
  have hm : p.l ∈ m.lks := e ▸ List.mem_map.2 ⟨p, hp, rfl⟩
  exact ⟨Nat.le_trans (lw_mem hm) (by have := hf.pot; omega), hf.each _ hm⟩
theorem Fit.pl {m : Sh} {n : Nat} (hf : Fit m n) {ps : List Lp} (e : ps.map (·.l) = m.lks) : ps.length ≤ n := by
  have := congrArg List.length e
  rw [List.length_map] at this
  have := hf.lks
  omega
/-- A command's lists, read. -/
def SeenAt (p : Rp) (w : World) : Prop := ∃ A1 c1, p.v = .slice A1 p.r.seen.length c1 ∧ p.r.seen.length ≤ c1 ∧ Kd.C kSg w A1 p.r.seen.length p.r.seen
def CmAt (A : Option Addr) (rps : List Rp) (B : Option Addr) (wrs : List Wr) (w : World) : Prop := Kd.C kRp w A rps.length rps ∧ (∀ p ∈ rps, SeenAt p w) ∧ Kd.C kWr w B wrs.length wrs
theorem seen_v {r : Rd} {A : Option Addr} {c : Nat} {w : World} (h : SeenAt ⟨r, .slice A r.seen.length c⟩ w) : Kd.C kSg w A r.seen.length r.seen := by
  obtain ⟨A1, c1, e1, h1, q1⟩ := h
  injection e1 with e3 e4 e5
  rw [e3]
  exact q1
/-- What else a command has. -/
structure Ec where
  b1 : Value
  b2 : Value
  b3 : Value
  d1 : Value
  d2 : Value
  d3 : Value
  d4 : Value
  d5 : Value
  d6 : Value
  d7 : Value
  d8 : Value
  d9 : Value
  d10 : Value
  d11 : Value
  d12 : Value
  d13 : Value
  d14 : Value
  d15 : Value
  d16 : Value
  d17 : Value
set_option maxHeartbeats 4000000 in
set_option maxRecDepth 20000 in
theorem newSh_fun : Fun Try.prog 12 #[] (fun _ => True) [] (fun r => [HP.ex fun gs : Nat => HP.and (r = .pointer (some ⟨gs, 0, none⟩)) (shH gs sh0)]) := by
  intro w S hS hR
  have HS := St.start hS
  clear hS hR
  have hu98 := Try.underlying98
  go_enter Try.func12, Try.ntmps12
  go_wp2_with fail
  refine ((newS_fun).call (F := []) HS (fun _ _ _ _ => trivial)).mono ?_
  rintro e_ w1 ⟨v_, rfl, HS_⟩
  clear HS
  obtain ⟨gst, HS1_⟩ := St.ex_ HS_
  clear HS_
  obtain ⟨rfl, HS_⟩ := St.and_ HS1_
  clear HS1_
  have HS : St w S w1 [someH gst []] := HS_
  clear HS_
  go_wp2_with (first
    | ((with_reducible refine gate_dst (N := 2) rfl ?_); refine ev_makemapK ?hg (N := 2) ?hd ekT evI HS ?hr ?_; (case hd => rfl); (case hg => rfl); (case hr => first | (go_simp; done) | (go_simp; rfl)); intro gm2 w3 HS_; clear HS; have HS : St w S w3 [mapK gm2 ekT evI [], someH gst []] := HS_; clear HS_)
    | ((with_reducible refine gate_dst (N := 3) rfl ?_); refine ev_makemapK ?hg (N := 3) ?hd ekT evB HS ?hr ?_; (case hd => rfl); (case hg => rfl); (case hr => first | (go_simp; done) | (go_simp; rfl)); intro gm4 w5 HS_; clear HS; have HS : St w S w5 [mapK gm4 ekT evB [], mapK gm2 ekT evI [], someH gst []] := HS_; clear HS_)
    | ((with_reducible refine gate_dst (N := 5) rfl ?_); refine ev_box ?hg (N := 5) ?hd (cs := [.pointer (some ⟨gst, 0, none⟩), .slice none 0 0, .slice none 0 0, .map (some gm2), .slice none 0 0, .map (some gm4), .int .i64 0]) (t := 98) HS ?hr ?_; (case hd => rfl); (case hg => rfl); (case hr => first | (go_simp; done) | (go_simp; rfl)); intro g6 w7 HS_ hg_; clear hg_; clear HS; have HS : St w S w7 [HP.obj g6 98 [.pointer (some ⟨gst, 0, none⟩), .slice none 0 0, .slice none 0 0, .map (some gm2), .slice none 0 0, .map (some gm4), .int .i64 0], mapK gm4 ekT evB [], mapK gm2 ekT evI [], someH gst []] := HS_; clear HS_))
  go_ret
  have H8 := (((((((HS.mv 1).mv 2).mv 3).mv 3)).idle.nil_ kLp 62).nil_ kRc 109).nil_ kTd 26
  exact ⟨_, rfl, St.ex_in g6 (St.and_in rfl (shH_shut (ps := []) (X := HP.emp) (fun _ _ _ p hp => absurd hp (by simp)) rfl ((((((((H8.mv 7).mv 1).mv 7).mv 3).mv 5).mv 5).mv 7).mv 7)))⟩
end Go.Proofs.Ytphenpncdhgdhaa.Shd
