/- within, busy, closures, slices.Clone, walked. -/
import Derived.Test.YtphenpncdhgdhaaShV
namespace Go.Proofs.Ytphenpncdhgdhaa.Shd
open Go.RowKit Go.Proofs.YtphenpncdhgdhaaW.PrintWords Go.Proofs.YtphenpncdhgdhaaW.PrintLast Go.Proofs.YtphenpncdhgdhaaW.PrintMore Go.Proofs.Ytphenpncdhgdhaa.Sl Go.Proofs.Ytphenpncdhgdhaa.Str Go.Proofs.Ytphenpncdhgdhaa.Ver
set_option linter.unusedVariables false
set_option linter.unusedSimpArgs false
theorem szShA44 : (Try.prog.info? 44).map (·.size) = some 9 := by kernel_rfl
/-- The place of the first that is such, behind k that are not. -/
def idxFrom {α : Type} (p : α → Bool) : List α → Nat → Int
  | [], _ => -1
  | x :: r, k => if p x then (k : Int) else idxFrom p r (k + 1)
theorem idx_any {α : Type} (p : α → Bool) : ∀ (xs : List α) (k : Nat), decide (idxFrom p xs k ≥ 0) = xs.any p
  | [], k => rfl
  | x :: r, k => by
    rw [idxFrom, List.any_cons]
    cases h : p x
    · rw [if_neg (by decide), Bool.false_or, idx_any p r (k + 1)]
    · rw [if_pos rfl, Bool.true_or]
      exact decide_eq_true (by omega)
theorem idx_place {α : Type} (p : α → Bool) : ∀ (xs : List α) (k : Nat), idxFrom p xs k = if xs.any p then ((k + (xs.takeWhile (fun x => !p x)).length : Nat) : Int) else -1
  | [], k => rfl
  | x :: r, k => by
    rw [idxFrom, List.any_cons, List.takeWhile_cons]
    cases h : p x
    · rw [if_neg (by decide), Bool.false_or, idx_place p r (k + 1)]
      simp only [Bool.not_false, if_true, List.length_cons]
      rw [show k + 1 + (List.takeWhile (fun x => !p x) r).length = k + ((List.takeWhile (fun x => !p x) r).length + 1) by omega]
    · rw [if_pos rfl, Bool.true_or]
      simp
theorem ba_beq (a b : ByteArray) : (a.toList == b.toList) = decide (a = b) := by
  by_cases h : a = b
  · subst h; simp
  · rw [decide_eq_false h]
    simpa using fun e => h (ext a b e)
abbrev fcl (f : FuncId) (cap : Value) : Value := .func (.func f) #[] #[cap]
theorem enters {f : FuncId} {fn : Func} (hf : Try.prog.funcs[f]? = some fn) (hname : (fn.name == "runtime.NumGoroutine") = false) (hb : fn.body.isNone = false) (args : Array Value) (w : World) : (callFunc f args).run Try.prog w = .ok (.enter f args) w := by
  have h1 : fn.name ≠ "runtime.NumGoroutine" := by simpa using hname
  have h2 : fn.body ≠ none := by
    intro e
    rw [e] at hb
    simp at hb
  have hp : program.run Try.prog w = .ok Try.prog w := rfl
  cases hbd : fn.body with
  | none => exact absurd hbd h2
  | some b => simp [callFunc, Sem.run_bind, hp, Result.andThen, hf, h1, hbd]
set_option maxHeartbeats 4000000 in
set_option maxRecDepth 20000 in
theorem within_fun (k a b : ByteArray) :
    FunV Try.prog 77 #[.string k, .agg #[.string a, .string b]] (fun _ => True) [] (.bool (inside k a b)) [] := by
  intro w S hS hR
  have HS := St.start hS
  clear hS hR
  have hu24 := Try.underlying24
  unfold inside
  obtain ⟨b1, h1⟩ : ∃ b1, decide (cmpS a k ≤ 0) = b1 := ⟨_, rfl⟩
  obtain ⟨b2, h2⟩ : ∃ b2, decide (cmpS k b < 0) = b2 := ⟨_, rfl⟩
  rw [h1, h2]
  have e1 : (Op.bytesLess a.toList k.toList || (a.toList == k.toList)) = b1 := by rw [leq_cmp]; exact h1
  have e2 : Op.bytesLess k.toList b.toList = b2 := by rw [bytesLess_cmp]; exact h2
  clear h1 h2
  cases b1
  · skip
    go_enter Try.func77, Try.ntmps77
    go_wp2_with (first
      | ((with_reducible refine gate_dst (N := 3) rfl ?_); refine ev_box ?hg (N := 3) ?hd (cs := [.string a, .string b]) (t := 24) HS ?hr ?_; (case hd => rfl); (case hg => rfl); (case hr => first | (go_simp; done) | (go_simp; rfl)); intro g1 w2 HS_ hg_; clear hg_; clear HS; have HS : St w S w2 [HP.obj g1 24 [.string a, .string b]] := HS_; clear HS_; have q3 := HS.cell 0))
    go_ret
    exact ⟨rfl, (HS.out 0)⟩
  · cases b2
    · skip
      go_enter Try.func77, Try.ntmps77
      go_wp2_with (first
        | ((with_reducible refine gate_dst (N := 3) rfl ?_); refine ev_box ?hg (N := 3) ?hd (cs := [.string a, .string b]) (t := 24) HS ?hr ?_; (case hd => rfl); (case hg => rfl); (case hr => first | (go_simp; done) | (go_simp; rfl)); intro g1 w2 HS_ hg_; clear hg_; clear HS; have HS : St w S w2 [HP.obj g1 24 [.string a, .string b]] := HS_; clear HS_; have q3 := HS.cell 0; have q4 := HS.cell 1))
      go_ret
      exact ⟨rfl, (HS.out 0)⟩
    · skip
      go_enter Try.func77, Try.ntmps77
      go_wp2_with (first
        | ((with_reducible refine gate_dst (N := 3) rfl ?_); refine ev_box ?hg (N := 3) ?hd (cs := [.string a, .string b]) (t := 24) HS ?hr ?_; (case hd => rfl); (case hg => rfl); (case hr => first | (go_simp; done) | (go_simp; rfl)); intro g1 w2 HS_ hg_; clear hg_; clear HS; have HS : St w S w2 [HP.obj g1 24 [.string a, .string b]] := HS_; clear HS_; have q3 := HS.cell 0; have q4 := HS.cell 1))
      go_ret
      exact ⟨rfl, (HS.out 0)⟩
set_option maxHeartbeats 4000000 in
set_option maxRecDepth 20000 in
theorem busy_fun (p : Lp) :
    FunV Try.prog 78 #[.agg #[.int .i64 p.l.t.a, .int .i64 p.l.t.b, .int .i64 p.l.t.c, .int .i64 p.l.home, .int .i64 p.l.til, p.u, p.v]] (fun _ => True) [] (rsV (busyR p.l)) [] := by
  intro w S hS hR
  have HS := St.start hS
  clear hS hR
  have hu62 := Try.underlying62
  have hu44 := Try.underlying44
  go_enter Try.func78, Try.ntmps78
  go_wp2_with (first
    | ((with_reducible refine gate_dst (N := 1) rfl ?_); refine ev_box ?hg (N := 1) ?hd (cs := [.int .i64 p.l.t.a, .int .i64 p.l.t.b, .int .i64 p.l.t.c, .int .i64 p.l.home, .int .i64 p.l.til, p.u, p.v]) (t := 62) HS ?hr ?_; (case hd => rfl); (case hg => rfl); (case hr => first | (go_simp; done) | (go_simp; rfl)); intro g1 w2 HS_ hg_; clear hg_; clear HS; have HS : St w S w2 [HP.obj g1 62 [.int .i64 p.l.t.a, .int .i64 p.l.t.b, .int .i64 p.l.t.c, .int .i64 p.l.home, .int .i64 p.l.til, p.u, p.v]] := HS_; clear HS_)
    | ((with_reducible refine gate_dst (N := 2) rfl ?_); refine ev_box ?hg (N := 2) ?hd (cs := [.int .i64 0, .int .i64 0, .int .i64 0, .int .i64 0, .int .i64 0, .int .i64 0, .int .i64 0, .int .i64 0, .bool false]) (t := 44) HS ?hr ?_; (case hd => rfl); (case hg => rfl); (case hr => first | (go_simp; done) | (go_simp; rfl)); intro g3 w4 HS_ hg_; clear hg_; clear HS; have HS : St w S w4 [HP.obj g3 44 [.int .i64 0, .int .i64 0, .int .i64 0, .int .i64 0, .int .i64 0, .int .i64 0, .int .i64 0, .int .i64 0, .bool false], HP.obj g1 62 [.int .i64 p.l.t.a, .int .i64 p.l.t.b, .int .i64 p.l.t.c, .int .i64 p.l.home, .int .i64 p.l.til, p.u, p.v]] := HS_; clear HS_; have q5 := (HS.mv 1).cell 0; have q6 := (HS.mv 1).cell 1; have q7 := (HS.mv 1).cell 2; have q8 := (HS.mv 1).cell 4)
    | ((with_reducible refine gate_ (.store 44 (.tmp 2) (.tmp 7)) rfl ?_); refine ev_store2 rfl rfl 44 (.tmp 2) (.tmp 7) rfl [.int .i64 131, .int .i64 0, .int .i64 p.l.t.a, .int .i64 p.l.t.b, .int .i64 p.l.t.c, .int .i64 0, .int .i64 p.l.til, .int .i64 0, .bool false] HS (g := g3) (j := 0) rfl rfl (seg := [.int .i64 131, .int .i64 0, .int .i64 p.l.t.a, .int .i64 p.l.t.b, .int .i64 p.l.t.c, .int .i64 0, .int .i64 p.l.til, .int .i64 0, .bool false]) rfl ?ht rfl ?hf ?he ?_; (case ht => exact szShA44); (case he => kernel_rfl); (case hf => first | (simp; done) | (simp [splice]; done)); intro w9 HS_; clear HS q5 q6 q7 q8; have HS : St w S w9 [HP.obj g3 44 [.int .i64 131, .int .i64 0, .int .i64 p.l.t.a, .int .i64 p.l.t.b, .int .i64 p.l.t.c, .int .i64 0, .int .i64 p.l.til, .int .i64 0, .bool false], HP.obj g1 62 [.int .i64 p.l.t.a, .int .i64 p.l.t.b, .int .i64 p.l.t.c, .int .i64 p.l.home, .int .i64 p.l.til, p.u, p.v]] := HS_; clear HS_))
  have HB := HS.blk
  try simp only [Exit.inBlock, Exit.then]
  refine bodyPost_ret (results_cell_row rfl _ _ g3 44 #[.int .i64 131, .int .i64 0, .int .i64 p.l.t.a, .int .i64 p.l.t.b, .int .i64 p.l.t.c, .int .i64 0, .int .i64 p.l.til, .int .i64 0, .bool false] (0, 0) _ rfl HB Try.underlying44 rfl (by kernel_rfl)) rfl ?_
  exact ⟨rfl, ((HS.out 0).out 0)⟩
set_option maxHeartbeats 4000000 in
set_option maxRecDepth 20000 in
theorem lockEq_fun (gt : Nat) (t : Td) (p : Lp) :
    FunV Try.prog 74 #[.agg #[.int .i64 p.l.t.a, .int .i64 p.l.t.b, .int .i64 p.l.t.c, .int .i64 p.l.home, .int .i64 p.l.til, p.u, p.v], .pointer (some ⟨gt, 0, none⟩)] (fun _ => True) [HP.obj gt 26 [.int .i64 t.a, .int .i64 t.b, .int .i64 t.c]] (.bool (decide (p.l.t = t))) [HP.obj gt 26 [.int .i64 t.a, .int .i64 t.b, .int .i64 t.c]] := by
  intro w S hS hR
  have HS := St.start hS
  clear hS hR
  have hu62 := Try.underlying62
  have hu26 := Try.underlying26
  have hT : ∀ w_ : World, (Op.equalIn 10000 26 (.agg #[.int .i64 p.l.t.a, .int .i64 p.l.t.b, .int .i64 p.l.t.c]) (.agg #[.int .i64 t.a, .int .i64 t.b, .int .i64 t.c])).run Try.prog w_ = .ok (decide (p.l.t = t)) w_ := fun w_ => tid_eq w_ p.l.t t
  go_enter Try.func74, Try.ntmps74
  go_wp2_with (first
    | ((with_reducible refine gate_dst (N := 2) rfl ?_); refine ev_box ?hg (N := 2) ?hd (cs := [.int .i64 p.l.t.a, .int .i64 p.l.t.b, .int .i64 p.l.t.c, .int .i64 p.l.home, .int .i64 p.l.til, p.u, p.v]) (t := 62) HS ?hr ?_; (case hd => rfl); (case hg => rfl); (case hr => first | (go_simp; done) | (go_simp; rfl)); intro g1 w2 HS_ hg_; clear hg_; clear HS; have HS : St w S w2 [HP.obj g1 62 [.int .i64 p.l.t.a, .int .i64 p.l.t.b, .int .i64 p.l.t.c, .int .i64 p.l.home, .int .i64 p.l.til, p.u, p.v], HP.obj gt 26 [.int .i64 t.a, .int .i64 t.b, .int .i64 t.c]] := HS_; clear HS_; have q3 := HS.cell 0; have q4 := HS.cell 1; have q5 := HS.cell 2; have q6 := (HS.mv 1).cell 0; have q7 := (HS.mv 1).cell 1; have q8 := (HS.mv 1).cell 2))
  go_ret
  exact ⟨rfl, (HS.out 0)⟩
set_option maxHeartbeats 4000000 in
set_option maxRecDepth 20000 in
theorem readIn_fun (gr : Nat) (r : Rd) (v : Value) (x : Wr) :
    FunV Try.prog 76 #[.agg #[.string x.key, .string x.val, .bool x.dead], .pointer (some ⟨gr, 0, none⟩)] (fun _ => True) [HP.obj gr 55 [.string r.sp.a, .string r.sp.b, v]] (.bool (inside x.key r.sp.a r.sp.b)) [HP.obj gr 55 [.string r.sp.a, .string r.sp.b, v]] := by
  intro w S hS hR
  have HS := St.start hS
  clear hS hR
  have hu64 := Try.underlying64
  have hu55 := Try.underlying55
  have hu24 := Try.underlying24
  go_enter Try.func76, Try.ntmps76
  go_wp2_with (first
    | ((with_reducible refine gate_dst (N := 2) rfl ?_); refine ev_box ?hg (N := 2) ?hd (cs := [.string x.key, .string x.val, .bool x.dead]) (t := 64) HS ?hr ?_; (case hd => rfl); (case hg => rfl); (case hr => first | (go_simp; done) | (go_simp; rfl)); intro g1 w2 HS_ hg_; clear hg_; clear HS; have HS : St w S w2 [HP.obj g1 64 [.string x.key, .string x.val, .bool x.dead], HP.obj gr 55 [.string r.sp.a, .string r.sp.b, v]] := HS_; clear HS_; have q3 := HS.cell 0; have q4 := (HS.mv 1).cell 0; have q5 := (HS.mv 1).cell 1))
  refine ((within_fun x.key r.sp.a r.sp.b).call (F := [HP.obj g1 64 [.string x.key, .string x.val, .bool x.dead], HP.obj gr 55 [.string r.sp.a, .string r.sp.b, v]]) HS (fun _ _ _ _ => trivial)).mono ?_
  rintro e_ w6 ⟨rfl, HS_⟩
  clear HS q3 q4 q5
  have HS : St w S w6 [HP.obj g1 64 [.string x.key, .string x.val, .bool x.dead], HP.obj gr 55 [.string r.sp.a, .string r.sp.b, v]] := HS_
  clear HS_
  go_wp2_with fail
  go_ret
  exact ⟨rfl, (HS.out 0)⟩
set_option maxHeartbeats 4000000 in
set_option maxRecDepth 20000 in
theorem writeEq_fun (gr : Nat) (y : Wr) (x : Wr) :
    FunV Try.prog 81 #[.agg #[.string x.key, .string x.val, .bool x.dead], .pointer (some ⟨gr, 0, none⟩)] (fun _ => True) [HP.obj gr 64 [.string y.key, .string y.val, .bool y.dead]] (.bool (decide (x.key = y.key))) [HP.obj gr 64 [.string y.key, .string y.val, .bool y.dead]] := by
  intro w S hS hR
  have HS := St.start hS
  clear hS hR
  have hu64 := Try.underlying64
  rw [← ba_beq]
  go_enter Try.func81, Try.ntmps81
  go_wp2_with (first
    | ((with_reducible refine gate_dst (N := 2) rfl ?_); refine ev_box ?hg (N := 2) ?hd (cs := [.string x.key, .string x.val, .bool x.dead]) (t := 64) HS ?hr ?_; (case hd => rfl); (case hg => rfl); (case hr => first | (go_simp; done) | (go_simp; rfl)); intro g1 w2 HS_ hg_; clear hg_; clear HS; have HS : St w S w2 [HP.obj g1 64 [.string x.key, .string x.val, .bool x.dead], HP.obj gr 64 [.string y.key, .string y.val, .bool y.dead]] := HS_; clear HS_; have q3 := HS.cell 0; have q4 := (HS.mv 1).cell 0))
  go_ret
  exact ⟨rfl, (HS.out 0)⟩
set_option maxHeartbeats 4000000 in
set_option maxRecDepth 20000 in
theorem writeIn_fun (gr : Nat) (y : Wr) (x : Sp) :
    FunV Try.prog 83 #[.agg #[.string x.a, .string x.b], .pointer (some ⟨gr, 0, none⟩)] (fun _ => True) [HP.obj gr 64 [.string y.key, .string y.val, .bool y.dead]] (.bool (inside y.key x.a x.b)) [HP.obj gr 64 [.string y.key, .string y.val, .bool y.dead]] := by
  intro w S hS hR
  have HS := St.start hS
  clear hS hR
  have hu64 := Try.underlying64
  have hu24 := Try.underlying24
  go_enter Try.func83, Try.ntmps83
  go_wp2_with (first
    | ((with_reducible refine gate_dst (N := 2) rfl ?_); refine ev_box ?hg (N := 2) ?hd (cs := [.string x.a, .string x.b]) (t := 24) HS ?hr ?_; (case hd => rfl); (case hg => rfl); (case hr => first | (go_simp; done) | (go_simp; rfl)); intro g1 w2 HS_ hg_; clear hg_; clear HS; have HS : St w S w2 [HP.obj g1 24 [.string x.a, .string x.b], HP.obj gr 64 [.string y.key, .string y.val, .bool y.dead]] := HS_; clear HS_; have q3 := (HS.mv 1).cell 0; have q4 := HS.cell 0; have q5 := HS.cell 1))
  refine ((within_fun y.key x.a x.b).call (F := [HP.obj g1 24 [.string x.a, .string x.b], HP.obj gr 64 [.string y.key, .string y.val, .bool y.dead]]) HS (fun _ _ _ _ => trivial)).mono ?_
  rintro e_ w6 ⟨rfl, HS_⟩
  clear HS q3 q4 q5
  have HS : St w S w6 [HP.obj g1 24 [.string x.a, .string x.b], HP.obj gr 64 [.string y.key, .string y.val, .bool y.dead]] := HS_
  clear HS_
  go_wp2_with fail
  go_ret
  exact ⟨rfl, (HS.out 0)⟩
set_option maxHeartbeats 4000000 in
set_option maxRecDepth 20000 in
theorem same_fun (h : Ht) (x : Sg) :
    FunV Try.prog 80 #[.agg #[.string h.key, .int .i64 h.ts, .string h.val], .agg #[.string x.key, .int .i64 x.ts]] (fun _ => True) [] (.bool (decide (stampOf h = x))) [] := by
  intro w S hS hR
  have HS := St.start hS
  clear hS hR
  have hu51 := Try.underlying51
  have hu53 := Try.underlying53
  have hd : decide (stampOf h = x) = ((h.key.toList == x.key.toList) && (h.ts == x.ts)) := by
    rw [ba_beq]
    obtain ⟨k, ts⟩ := x
    by_cases h1 : h.key = k <;> by_cases h2 : h.ts = ts <;> simp [stampOf, h1, h2]
  rw [hd]
  clear hd
  cases hb : (h.key.toList == x.key.toList)
  · skip
    go_enter Try.func80, Try.ntmps80
    go_wp2_with (first
      | ((with_reducible refine gate_dst (N := 2) rfl ?_); refine ev_box ?hg (N := 2) ?hd (cs := [.string h.key, .int .i64 h.ts, .string h.val]) (t := 51) HS ?hr ?_; (case hd => rfl); (case hg => rfl); (case hr => first | (go_simp; done) | (go_simp; rfl)); intro g1 w2 HS_ hg_; clear hg_; clear HS; have HS : St w S w2 [HP.obj g1 51 [.string h.key, .int .i64 h.ts, .string h.val]] := HS_; clear HS_)
      | ((with_reducible refine gate_dst (N := 3) rfl ?_); refine ev_box ?hg (N := 3) ?hd (cs := [.string x.key, .int .i64 x.ts]) (t := 53) HS ?hr ?_; (case hd => rfl); (case hg => rfl); (case hr => first | (go_simp; done) | (go_simp; rfl)); intro g3 w4 HS_ hg_; clear hg_; clear HS; have HS : St w S w4 [HP.obj g3 53 [.string x.key, .int .i64 x.ts], HP.obj g1 51 [.string h.key, .int .i64 h.ts, .string h.val]] := HS_; clear HS_; have q5 := (HS.mv 1).cell 0; have q6 := HS.cell 0))
    go_ret
    exact ⟨rfl, ((HS.out 0).out 0)⟩
  · skip
    go_enter Try.func80, Try.ntmps80
    go_wp2_with (first
      | ((with_reducible refine gate_dst (N := 2) rfl ?_); refine ev_box ?hg (N := 2) ?hd (cs := [.string h.key, .int .i64 h.ts, .string h.val]) (t := 51) HS ?hr ?_; (case hd => rfl); (case hg => rfl); (case hr => first | (go_simp; done) | (go_simp; rfl)); intro g1 w2 HS_ hg_; clear hg_; clear HS; have HS : St w S w2 [HP.obj g1 51 [.string h.key, .int .i64 h.ts, .string h.val]] := HS_; clear HS_)
      | ((with_reducible refine gate_dst (N := 3) rfl ?_); refine ev_box ?hg (N := 3) ?hd (cs := [.string x.key, .int .i64 x.ts]) (t := 53) HS ?hr ?_; (case hd => rfl); (case hg => rfl); (case hr => first | (go_simp; done) | (go_simp; rfl)); intro g3 w4 HS_ hg_; clear hg_; clear HS; have HS : St w S w4 [HP.obj g3 53 [.string x.key, .int .i64 x.ts], HP.obj g1 51 [.string h.key, .int .i64 h.ts, .string h.val]] := HS_; clear HS_; have q5 := (HS.mv 1).cell 0; have q6 := HS.cell 0; have q7 := (HS.mv 1).cell 1; have q8 := HS.cell 1))
    go_ret
    exact ⟨rfl, ((HS.out 0).out 0)⟩
set_option maxHeartbeats 4000000 in
set_option maxRecDepth 20000 in
theorem cloneWr_fun (A : Option Addr) (c : Nat) (xs : List Wr) (hl : xs.length * 40 ≤ 140737488355328) :
    Fun Try.prog 55 #[.slice A xs.length c] (fun w => Kd.C kWr w A xs.length xs) [] (fun r => [HP.row kWr 64 r xs]) := by
  intro w S hS hR
  have HS := St.start hS
  have HR := Aside0.mk (fun (w' : World) (F : List HP) (h : St w S w' F) => hR w' h.ext)
  have hn : A = none → xs = [] := fun e => by
    have h := hR w (Ext.refl _ _)
    rw [e] at h
    cases xs with
    | nil => rfl
    | cons x xs => exact absurd (h.2.2 (by simp)) (by simp)
  clear hS hR
  have hu := Try.underlying32
  have hq := fun (w : World) (A : Option Addr) (n c n' c' : Nat) => Lib.run_eql_slice_nil (P := Try.prog) w 32 64 A n c n' c' Try.underlying32
  cases A with
  | none =>
    have e : xs = [] := hn rfl
    subst e
    clear hn
    go_enter Try.func55, Try.ntmps55
    go_wp2
    go_ret
    exact ⟨_, rfl, HS.nil_ _ _⟩
  | some ad =>
    clear hn
    go_enter Try.func55, Try.ntmps55
    go_wp2_with (first
      | ((with_reducible refine gate_dst (N := 5) rfl ?_); refine ev_lit kWr 64 ?hg (N := 5) ?hd (xs := ([] : List Wr)) (inner := []) HS ?hr ?hp (by decide) ?_; (case hd => rfl); (case hg => rfl); (case hr => first | (go_simp; done) | (go_simp; rfl)); (case hp => exact Reps.none _ _); intro v1 w1 HS_; clear HS; have HS := HS_; clear HS_)
      | ((with_reducible refine gate_dst (N := 7) rfl ?_); at_builtin; refine ev_rows kWr Wr_flat rfl (.tmp 5) (.tmp 6) 32 64 _ 40 rfl Try.underlying32 Wr_info rfl (by decide) (by omega) v1 [] xs _ c rfl rfl HS ?hc ?hl ?_; (case hc => exact HR.out _ _ HS); (case hl => simpa using hl); intro v2 w2 HS_; clear HS; have HS := HS_; clear HS_))
    go_ret
    exact ⟨_, rfl, HS⟩
set_option maxHeartbeats 4000000 in
set_option maxRecDepth 20000 in
theorem cloneSp_fun (A : Option Addr) (c : Nat) (xs : List Sp) (hl : xs.length * 32 ≤ 140737488355328) :
    Fun Try.prog 61 #[.slice A xs.length c] (fun w => Kd.C kSp w A xs.length xs) [] (fun r => [HP.row kSp 24 r xs]) := by
  intro w S hS hR
  have HS := St.start hS
  have HR := Aside0.mk (fun (w' : World) (F : List HP) (h : St w S w' F) => hR w' h.ext)
  have hn : A = none → xs = [] := fun e => by
    have h := hR w (Ext.refl _ _)
    rw [e] at h
    cases xs with
    | nil => rfl
    | cons x xs => exact absurd (h.2.2 (by simp)) (by simp)
  clear hS hR
  have hu := Try.underlying60
  have hq := fun (w : World) (A : Option Addr) (n c n' c' : Nat) => Lib.run_eql_slice_nil (P := Try.prog) w 60 24 A n c n' c' Try.underlying60
  cases A with
  | none =>
    have e : xs = [] := hn rfl
    subst e
    clear hn
    go_enter Try.func61, Try.ntmps61
    go_wp2
    go_ret
    exact ⟨_, rfl, HS.nil_ _ _⟩
  | some ad =>
    clear hn
    go_enter Try.func61, Try.ntmps61
    go_wp2_with (first
      | ((with_reducible refine gate_dst (N := 5) rfl ?_); refine ev_lit kSp 24 ?hg (N := 5) ?hd (xs := ([] : List Sp)) (inner := []) HS ?hr ?hp (by decide) ?_; (case hd => rfl); (case hg => rfl); (case hr => first | (go_simp; done) | (go_simp; rfl)); (case hp => exact Reps.none _ _); intro v1 w1 HS_; clear HS; have HS := HS_; clear HS_)
      | ((with_reducible refine gate_dst (N := 7) rfl ?_); at_builtin; refine ev_rows kSp Sp_flat rfl (.tmp 5) (.tmp 6) 60 24 _ 32 rfl Try.underlying60 Sp_info rfl (by decide) (by omega) v1 [] xs _ c rfl rfl HS ?hc ?hl ?_; (case hc => exact HR.out _ _ HS); (case hl => simpa using hl); intro v2 w2 HS_; clear HS; have HS := HS_; clear HS_))
    go_ret
    exact ⟨_, rfl, HS⟩
set_option maxHeartbeats 4000000 in
set_option maxRecDepth 20000 in
theorem cloneRc_fun (A : Option Addr) (c : Nat) (xs : List Rc) (hl : xs.length * 32 ≤ 140737488355328) :
    Fun Try.prog 41 #[.slice A xs.length c] (fun w => Kd.C kRc w A xs.length xs) [] (fun r => [HP.row kRc 109 r xs]) := by
  intro w S hS hR
  have HS := St.start hS
  have HR := Aside0.mk (fun (w' : World) (F : List HP) (h : St w S w' F) => hR w' h.ext)
  have hn : A = none → xs = [] := fun e => by
    have h := hR w (Ext.refl _ _)
    rw [e] at h
    cases xs with
    | nil => rfl
    | cons x xs => exact absurd (h.2.2 (by simp)) (by simp)
  clear hS hR
  have hu := Try.underlying70
  have hq := fun (w : World) (A : Option Addr) (n c n' c' : Nat) => Lib.run_eql_slice_nil (P := Try.prog) w 70 109 A n c n' c' Try.underlying70
  cases A with
  | none =>
    have e : xs = [] := hn rfl
    subst e
    clear hn
    go_enter Try.func41, Try.ntmps41
    go_wp2
    go_ret
    exact ⟨_, rfl, HS.nil_ _ _⟩
  | some ad =>
    clear hn
    go_enter Try.func41, Try.ntmps41
    go_wp2_with (first
      | ((with_reducible refine gate_dst (N := 5) rfl ?_); refine ev_lit kRc 109 ?hg (N := 5) ?hd (xs := ([] : List Rc)) (inner := []) HS ?hr ?hp (by decide) ?_; (case hd => rfl); (case hg => rfl); (case hr => first | (go_simp; done) | (go_simp; rfl)); (case hp => exact Reps.none _ _); intro v1 w1 HS_; clear HS; have HS := HS_; clear HS_)
      | ((with_reducible refine gate_dst (N := 7) rfl ?_); at_builtin; refine ev_rows kRc Rc_flat rfl (.tmp 5) (.tmp 6) 70 109 _ 32 rfl Try.underlying70 Rc_info rfl (by decide) (by omega) v1 [] xs _ c rfl rfl HS ?hc ?hl ?_; (case hc => exact HR.out _ _ HS); (case hl => simpa using hl); intro v2 w2 HS_; clear HS; have HS := HS_; clear HS_))
    go_ret
    exact ⟨_, rfl, HS⟩
set_option maxHeartbeats 4000000 in
set_option maxRecDepth 20000 in
theorem cloneTd_fun (A : Option Addr) (c : Nat) (xs : List Td) (hl : xs.length * 24 ≤ 140737488355328) :
    Fun Try.prog 42 #[.slice A xs.length c] (fun w => Kd.C kTd w A xs.length xs) [] (fun r => [HP.row kTd 26 r xs]) := by
  intro w S hS hR
  have HS := St.start hS
  have HR := Aside0.mk (fun (w' : World) (F : List HP) (h : St w S w' F) => hR w' h.ext)
  have hn : A = none → xs = [] := fun e => by
    have h := hR w (Ext.refl _ _)
    rw [e] at h
    cases xs with
    | nil => rfl
    | cons x xs => exact absurd (h.2.2 (by simp)) (by simp)
  clear hS hR
  have hu := Try.underlying71
  have hq := fun (w : World) (A : Option Addr) (n c n' c' : Nat) => Lib.run_eql_slice_nil (P := Try.prog) w 71 26 A n c n' c' Try.underlying71
  cases A with
  | none =>
    have e : xs = [] := hn rfl
    subst e
    clear hn
    go_enter Try.func42, Try.ntmps42
    go_wp2
    go_ret
    exact ⟨_, rfl, HS.nil_ _ _⟩
  | some ad =>
    clear hn
    go_enter Try.func42, Try.ntmps42
    go_wp2_with (first
      | ((with_reducible refine gate_dst (N := 5) rfl ?_); refine ev_lit kTd 26 ?hg (N := 5) ?hd (xs := ([] : List Td)) (inner := []) HS ?hr ?hp (by decide) ?_; (case hd => rfl); (case hg => rfl); (case hr => first | (go_simp; done) | (go_simp; rfl)); (case hp => exact Reps.none _ _); intro v1 w1 HS_; clear HS; have HS := HS_; clear HS_)
      | ((with_reducible refine gate_dst (N := 7) rfl ?_); at_builtin; refine ev_rows kTd Td_flat rfl (.tmp 5) (.tmp 6) 71 26 _ 24 rfl Try.underlying71 Td_info rfl (by decide) (by omega) v1 [] xs _ c rfl rfl HS ?hc ?hl ?_; (case hc => exact HR.out _ _ HS); (case hl => simpa using hl); intro v2 w2 HS_; clear HS; have HS := HS_; clear HS_))
    go_ret
    exact ⟨_, rfl, HS⟩
end Go.Proofs.Ytphenpncdhgdhaa.Shd
