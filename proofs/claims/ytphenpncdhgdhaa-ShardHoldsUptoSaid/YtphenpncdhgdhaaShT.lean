/- A shard's calls, whatever lies where; results compared; great, walked. -/
import Derived.Test.YtphenpncdhgdhaaShO
import Derived.Test.YtphenpncdhgdhaaShK
namespace Go.Proofs.Ytphenpncdhgdhaa.Shd
open Go.RowKit Go.Proofs.YtphenpncdhgdhaaW.PrintWords Go.Proofs.YtphenpncdhgdhaaW.PrintLast Go.Proofs.YtphenpncdhgdhaaW.PrintMore Go.Proofs.Ytphenpncdhgdhaa.Sl Go.Proofs.Ytphenpncdhgdhaa.Str Go.Proofs.Ytphenpncdhgdhaa.Ver
set_option linter.unusedVariables false
set_option linter.unusedSimpArgs false
theorem szShT42 : (Try.prog.info? 42).map (·.size) = some 31 := by kernel_rfl
theorem szShT55 : (Try.prog.info? 55).map (·.size) = some 3 := by kernel_rfl
theorem spanH_fun (gs : Nat) (m : Sh) (n : Nat) (hf : Fit m n) (hn : n ≤ 100000) (a b : ByteArray) :
    Fun Try.prog 15 #[.pointer (some ⟨gs, 0, none⟩), .agg #[.string a, .string b]] (fun _ => True) [shH gs m] (fun r => [HP.row kHt 51 r (span m.rows a b ever), shH gs m]) := by
  intro w S hS hR
  obtain ⟨gst, gf, gg, Al, cl, Ar, cr, Ao, co, ps, X, hSup, hps, HS⟩ := shH_open (St.start hS)
  refine ((span_sh (gs := gs) (gst := gst) (gf := gf) (gg := gg) (Al := Al) (Ar := Ar) (Ao := Ao) (cl := cl) (cr := cr) (co := co) (ps := ps) (rcs := m.rcs) (ov := m.ov) (rows := m.rows) (high := m.high) (X := X) n hf.kept (by omega) a b).call (F := [HP.row kLp 62 (.slice Al ps.length cl) ps, X, HP.row kRc 109 (.slice Ar m.rcs.length cr) m.rcs, mapK gf ekT evI (fnd m.rcs), HP.row kTd 26 (.slice Ao m.ov.length co) m.ov, mapK gg ekT evB (gon m.ov)]) ((HS.mv 1).mv 1) (fun _ _ _ _ => trivial)).mono ?_
  rintro e w1 ⟨r, rfl, H1⟩
  have H2 := H1.mv 1
  refine ⟨r, rfl, ?_⟩
  have H3 : St w S w1 (shH gs m :: [HP.row kHt 51 r (span m.rows a b ever)]) := shH_shut hSup hps (((((((((H2.mv 8).mv 8).mv 8).mv 8).mv 8).mv 8).mv 8).mv 7))
  exact H3.mv 1
theorem locksH_fun (gs : Nat) (m : Sh) (n : Nat) (hf : Fit m n) (hn : n ≤ 100000) :
    Fun Try.prog 17 #[.pointer (some ⟨gs, 0, none⟩)] (fun _ => True) [shH gs m] (fun r => [HP.ex fun o : Lo => HP.and (r = .slice o.A o.ps.length o.c ∧ o.ps.map (·.l) = m.lks) (toldH o), shH gs m]) := by
  intro w S hS hR
  obtain ⟨gst, gf, gg, Al, cl, Ar, cr, Ao, co, ps, X, hSup, hps, HS⟩ := shH_open (St.start hS)
  have hwl := hf.wl hps
  refine ((locks_fun (gs := gs) (gst := gst) (gf := gf) (gg := gg) (Al := Al) (Ar := Ar) (Ao := Ao) (cl := cl) (cr := cr) (co := co) (ps := ps) (rcs := m.rcs) (ov := m.ov) (rows := m.rows) (high := m.high) (X := X) hSup (Nat.le_trans (hf.pl hps) (by omega)) (fun p hp => ⟨Nat.le_trans (hwl p hp).1 (by omega), Nat.le_trans (hwl p hp).2 (by omega)⟩)).call (F := [someH gst m.rows, HP.row kRc 109 (.slice Ar m.rcs.length cr) m.rcs, mapK gf ekT evI (fnd m.rcs), HP.row kTd 26 (.slice Ao m.ov.length co) m.ov, mapK gg ekT evB (gon m.ov)]) (((HS.mv 3).mv 3).mv 2) (fun _ _ _ _ => trivial)).mono ?_
  rintro e w1 ⟨r, rfl, H1⟩
  rw [hps] at H1
  have H2 := H1.mv 1
  refine ⟨r, rfl, ?_⟩
  have H3 : St w S w1 (shH gs m :: [HP.ex fun o : Lo => HP.and (r = .slice o.A o.ps.length o.c ∧ o.ps.map (·.l) = m.lks) (toldH o)]) := shH_shut hSup hps (((((((((H2.mv 8).mv 8).mv 8).mv 8).mv 7).mv 7).mv 8).mv 7))
  exact H3.mv 1
theorem recordH_fun (gs : Nat) (m : Sh) (n : Nat) (hf : Fit m n) (t : Td) :
    FunV Try.prog 24 #[.pointer (some ⟨gs, 0, none⟩), .agg #[.int .i64 t.a, .int .i64 t.b, .int .i64 t.c]] (fun _ => True) [shH gs m] (recT (recOf m.rcs t)) [shH gs m] := by
  intro w S hS hR
  obtain ⟨gst, gf, gg, Al, cl, Ar, cr, Ao, co, ps, X, hSup, hps, HS⟩ := shH_open (St.start hS)
  refine ((record_fun (gs := gs) (gst := gst) (gf := gf) (gg := gg) (Al := Al) (Ar := Ar) (Ao := Ao) (cl := cl) (cr := cr) (co := co) (ps := ps) (rcs := m.rcs) (ov := m.ov) (rows := m.rows) (high := m.high) (X := X) t hf.rcd).call (F := [someH gst m.rows, HP.row kLp 62 (.slice Al ps.length cl) ps, X, HP.row kTd 26 (.slice Ao m.ov.length co) m.ov, mapK gg ekT evB (gon m.ov)]) (((HS.mv 5).mv 5).mv 2) (fun _ _ _ _ => trivial)).mono ?_
  rintro e w1 ⟨rfl, H1⟩
  exact ⟨rfl, shH_shut hSup hps (((((((((H1.mv 7).mv 7).mv 4).mv 4).mv 7).mv 7).mv 7).mv 7))⟩
theorem tid_eq_at (w : World) (d : Nat) (a b : Td) : (Op.equalIn (d + 2) 26 (.agg #[.int .i64 a.a, .int .i64 a.b, .int .i64 a.c]) (.agg #[.int .i64 b.a, .int .i64 b.b, .int .i64 b.c])).run Try.prog w = .ok (decide (a = b)) w := by
  obtain ⟨a1, a2, a3⟩ := a
  obtain ⟨b1, b2, b3⟩ := b
  have hi := Try.underlying3
  have hf : Try.prog.underlying 26 = some (.struct (Try.prog.fieldsOf 26)) := by kernel_rfl
  have hs : Try.prog.stoodInHeld 26 = false := by kernel_rfl
  have hl : (Try.prog.fieldsOf 26).toList = [{ name := "Node", type := 3, offset := 0, embedded := false, tag := "", pkgPath := "", byteOffset := 0 }, { name := "Boot", type := 3, offset := 1, embedded := false, tag := "", pkgPath := "", byteOffset := 8 }, { name := "Seq", type := 3, offset := 2, embedded := false, tag := "", pkgPath := "", byteOffset := 16 }] := by kernel_rfl
  have e1 : ∀ (d : Nat) (x y : Int) (w : World), (Op.equalIn (d + 1) 3 (.int .i64 x) (.int .i64 y)).run Try.prog w = .ok (x == y) w := fun d x y w => run_equalIn_int w d 3 .i64 .i64 x y hi
  have hq : ((⟨a1, a2, a3⟩ : Td) = ⟨b1, b2, b3⟩) ↔ (a1 = b1 ∧ a2 = b2 ∧ a3 = b3) := by simp
  rw [show d + 2 = (d + 1) + 1 from rfl, run_equalIn_agg w (d + 1) 26 _ _ hf hs, hl]
  by_cases h1 : a1 = b1 <;> by_cases h2 : a2 = b2 <;> by_cases h3 : a3 = b3 <;> simp [Op.eqFields, Sem.run_bind, Result.andThen, e1, hq, h1, h2, h3, go_sem]
/-- Results compared. -/
theorem rs_eq (w : World) (a b : Rs) : (Op.equal 44 (rsV a) (rsV b)).run Try.prog w = .ok (decide (a = b)) w := by
  obtain ⟨a1, a2, a3, a4, a5, a6, a7⟩ := a
  obtain ⟨b1, b2, b3, b4, b5, b6, b7⟩ := b
  have hi := Try.underlying3
  have hb := Try.underlying4
  have he := Try.underlying38
  have hf : Try.prog.underlying 44 = some (.struct (Try.prog.fieldsOf 44)) := by kernel_rfl
  have hs : Try.prog.stoodInHeld 44 = false := by kernel_rfl
  have hl : (Try.prog.fieldsOf 44).toList = [{ name := "Err", type := 38, offset := 0, embedded := false, tag := "", pkgPath := "", byteOffset := 0 }, { name := "Ts", type := 3, offset := 1, embedded := false, tag := "", pkgPath := "", byteOffset := 8 }, { name := "Txn", type := 26, offset := 2, embedded := false, tag := "", pkgPath := "", byteOffset := 16 }, { name := "Version", type := 3, offset := 5, embedded := false, tag := "", pkgPath := "", byteOffset := 40 }, { name := "Until", type := 3, offset := 6, embedded := false, tag := "", pkgPath := "", byteOffset := 48 }, { name := "Job", type := 3, offset := 7, embedded := false, tag := "", pkgPath := "", byteOffset := 56 }, { name := "New", type := 4, offset := 8, embedded := false, tag := "", pkgPath := "", byteOffset := 64 }] := by kernel_rfl
  have e1 : ∀ (d : Nat) (x y : Int) (w : World), (Op.equalIn (d + 1) 3 (.int .i64 x) (.int .i64 y)).run Try.prog w = .ok (x == y) w := fun d x y w => run_equalIn_int w d 3 .i64 .i64 x y hi
  have e2 : ∀ (d : Nat) (x y : Int) (w : World), (Op.equalIn (d + 1) 38 (.int .i64 x) (.int .i64 y)).run Try.prog w = .ok (x == y) w := fun d x y w => run_equalIn_int w d 38 .i64 .i64 x y he
  have e3 : ∀ (d : Nat) (x y : Bool) (w : World), (Op.equalIn (d + 1) 4 (.bool x) (.bool y)).run Try.prog w = .ok (x == y) w := fun d x y w => run_equalIn_bool w d 4 x y hb
  have e4 : ∀ (x y : Td) (w : World), (Op.equalIn 9999 26 (.agg #[.int .i64 x.a, .int .i64 x.b, .int .i64 x.c]) (.agg #[.int .i64 y.a, .int .i64 y.b, .int .i64 y.c])).run Try.prog w = .ok (decide (x = y)) w := fun x y w => tid_eq_at w 9997 x y
  have hq : ((⟨a1, a2, a3, a4, a5, a6, a7⟩ : Rs) = ⟨b1, b2, b3, b4, b5, b6, b7⟩) ↔ (a1 = b1 ∧ a2 = b2 ∧ a3 = b3 ∧ a4 = b4 ∧ a5 = b5 ∧ a6 = b6 ∧ a7 = b7) := by simp
  unfold rsV Op.equal
  rw [show Op.maxDepth = 9999 + 1 from rfl]
  rw [show (9999 : Nat) = 9998 + 1 from rfl] at e4 ⊢
  generalize 9998 = d at e4 ⊢
  rw [run_equalIn_agg w (d + 1) 44 _ _ hf hs, hl]
  by_cases h1 : a1 = b1
  case neg => simp [Op.eqFields, Sem.run_bind, Result.andThen, e1, e2, e3, e4, hq, h1, go_sem]
  by_cases h2 : a2 = b2
  case neg => simp [Op.eqFields, Sem.run_bind, Result.andThen, e1, e2, e3, e4, hq, h1, h2, go_sem]
  by_cases h3 : a3 = b3
  case neg => simp [Op.eqFields, Sem.run_bind, Result.andThen, e1, e2, e3, e4, hq, h1, h2, h3, go_sem]
  by_cases h4 : a4 = b4
  case neg => simp [Op.eqFields, Sem.run_bind, Result.andThen, e1, e2, e3, e4, hq, h1, h2, h3, h4, go_sem]
  by_cases h5 : a5 = b5
  case neg => simp [Op.eqFields, Sem.run_bind, Result.andThen, e1, e2, e3, e4, hq, h1, h2, h3, h4, h5, go_sem]
  by_cases h6 : a6 = b6
  case neg => simp [Op.eqFields, Sem.run_bind, Result.andThen, e1, e2, e3, e4, hq, h1, h2, h3, h4, h5, h6, go_sem]
  by_cases h7 : a7 = b7
  case neg => simp [Op.eqFields, Sem.run_bind, Result.andThen, e1, e2, e3, e4, hq, h1, h2, h3, h4, h5, h6, h7, go_sem]
  simp [Op.eqFields, Sem.run_bind, Result.andThen, e1, e2, e3, e4, hq, h1, h2, h3, h4, h5, h6, h7, go_sem]
section
variable {P : Program} {ops : Array Oper} {rest : List Oper} {o : Oper} {a : Act} {Q : Exit → Act → World → Prop} {W : World}
/-- A struct that lies anywhere, read at once. -/
theorem ev_loadA (hgd : o.guard = none) (T : TypeId) (x : Operand) (ho : o.op = .load T x) {b : Addr} {seg : List Value} {d : TypeDesc} (hx : a.eval x = .pointer (some b)) (hu : P.underlying T = some d)
    (hd : (match d with | .struct _ | .array _ _ => true | _ => false) = true) (hi : (P.info? T).map (·.size) = some seg.length) (hc : ∀ k v, seg[k]? = some v → W.cell? (b.add k) = some v)
    (h : wpList P ops Q rest (a.put o.dst (.agg seg.toArray)) W) : wpList P ops Q (o :: rest) a W := by
  have hl : (loadCells b seg.length).run P W = .ok seg.toArray W := run_loadCells_list (P := P) W b seg hc
  have hr : (loadVar T b).run P W = .ok (.agg seg.toArray) W := by
    cases hq : P.info? T with
    | none => simp [hq] at hi
    | some i =>
      have hs : i.size = seg.length := by simpa [hq] using hi
      have hagg : (isAgg T).run P W = .ok true W := by
        unfold isAgg
        rw [Sem.run_bind, run_underlying hu W]
        cases d <;> simp_all
      simp [loadVar, Sem.run_bind, hagg, sizeOf, typeInfo, hq, hs, hl]
  refine wpList_plain hgd fun K hK => ?_
  unfold Oper.wp execOp
  simp only [ho, hx, Instr.loadAt, Instr.sureAddr, Sem.run_bind, Sem.run_pure, Result.andThen_ok, hr]
  exact hK _ _ h
end
/-- A step that is right. -/
structure OpOk (o : OpS) : Prop where
  map : o.rps.map (·.r) = o.c.rds
  one : (cOp o).all (fun q => q.oneCell') = true
  r56 : o.rps.length * 56 ≤ 140737488355328
  w40 : o.c.wrs.length * 40 ≤ 140737488355328
  s24 : ∀ p ∈ o.rps, p.r.seen.length * 24 ≤ 140737488355328
  keys : ∀ w ∈ o.c.wrs, w.key.size ≤ 140737488351232
  spans : ∀ r ∈ o.c.rds, r.sp.a.size ≤ 140737488351232
def seenN (ps : List Rp) : Nat := (ps.map (·.r.seen.length)).sum
def ow (o : OpS) : Nat := 1 + o.c.wrs.length + o.rps.length + seenN o.rps
def tot (os : List OpS) : Nat := (os.map ow).sum
theorem op_at {w : World} {A : Option Addr} {os : List OpS} (h : ScrAt A os w) (k : Nat) (o : OpS) (ho : os[k]? = some o) : ∃ ad, A = some ad ∧ ∀ j v, (cOp o)[j]? = some v → w.cell? ((ad.add (k * 31)).add j) = some v := by
  obtain ⟨ad, e, hc⟩ := C_at (enc := cOp) kOpS_open h.1 k o ho
  exact ⟨ad, e, fun j v hj => by rw [Deep.add_add]; exact hc j v hj⟩
theorem script_of {w : World} {A : Option Addr} {n : Nat} {xs : List OpT} (h : Kd.C kOpT w A n xs) (hB : ∀ x ∈ xs, OpB x) (hU : (xs.map wtX).sum ≤ 1048576) :
    ∃ os : List OpS, os.length = xs.length ∧ (∀ o ∈ os, OpOk o) ∧ tot os ≤ 1048576 ∧ ∀ w', Below w.heap.size w w' → ScrAt A os w' := by
  obtain ⟨os, hl, hx, hs⟩ := scr_of h
  have hlen : ∀ {o : OpS} {x : OpT}, OpOf o x → o.rps.length = (rdsT x).length := fun {o x} ho => by rw [← ho.rds, ← ho.map, List.length_map]
  refine ⟨os, hl, fun o ho => ?_, ?_, hs⟩
  · obtain ⟨i, hi⟩ := List.mem_iff_getElem?.1 ho
    obtain ⟨x, hxi, hox⟩ := hx i o hi
    have hb := hB x (List.mem_of_getElem? hxi)
    exact ⟨hox.map, hox.one, by rw [hlen hox]; exact hb.r56, by rw [hox.wrs]; exact hb.w40, fun p hp => hb.s24 p.r (by rw [← hox.rds, ← hox.map]; exact List.mem_map.2 ⟨p, hp, rfl⟩), fun w hw => hb.keys w (by rw [← hox.wrs]; exact hw), fun r hr => hb.spans r (by rw [← hox.rds]; exact hr)⟩
  · have e : os.map ow = xs.map wtX := by
      apply List.ext_getElem?
      intro i
      rw [List.getElem?_map, List.getElem?_map]
      by_cases hi : i < os.length
      · have h1 : os[i]? = some os[i] := List.getElem?_eq_getElem hi
        obtain ⟨x, hxi, hox⟩ := hx i _ h1
        rw [h1, hxi]
        show some (ow os[i]) = some (wtX x)
        unfold ow wtX seenN
        rw [hlen hox, hox.wrs, ← hox.rds, ← hox.map, List.map_map]
        rfl
      · rw [List.getElem?_eq_none (by omega), List.getElem?_eq_none (by omega)]
        rfl
    unfold tot
    rw [e]
    exact hU
theorem tot_take (os : List OpS) (k : Nat) (h : k < os.length) : tot (os.take (k + 1)) = tot (os.take k) + ow os[k] := by
  unfold tot
  rw [List.take_succ_eq_append_getElem h, List.map_append, List.sum_append]
  simp
theorem tot_le (os : List OpS) (k : Nat) : tot (os.take k) ≤ tot os := by
  unfold tot
  conv => rhs; rw [← List.take_append_drop k os]
  rw [List.map_append, List.sum_append]
  omega
theorem ow_mem {os : List OpS} {o : OpS} (h : o ∈ os) : ow o ≤ tot os := by
  unfold tot
  induction os with
  | nil => simp at h
  | cons q os ih =>
    simp only [List.map_cons, List.sum_cons]
    cases h with
    | head => omega
    | tail _ h => have := ih h; omega
theorem seenN_take (ps : List Rp) (k : Nat) (h : k < ps.length) : seenN (ps.take (k + 1)) = seenN (ps.take k) + ps[k].r.seen.length := by
  unfold seenN
  rw [List.take_succ_eq_append_getElem h, List.map_append, List.sum_append]
  simp
theorem seenN_le (ps : List Rp) (k : Nat) : seenN (ps.take k) ≤ seenN ps := by
  unfold seenN
  conv => rhs; rw [← List.take_append_drop k ps]
  rw [List.map_append, List.sum_append]
  omega
def greatB (os : List OpS) : Bool := decide (3000 < tot os) || decide (150 < os.length)
set_option maxHeartbeats 4000000 in
set_option maxRecDepth 20000 in
theorem great_fun (A : Option Addr) (ca : Nat) (os : List OpS) (hok : ∀ o ∈ os, OpOk o) (ht : tot os ≤ 1048576) :
    FunV Try.prog 11 #[.slice A os.length ca] (ScrAt A os) [] (.bool (greatB os)) [] := by
  intro w S hS hR
  have HS := St.start hS
  have HR := Aside0.mk (fun (w' : World) (F : List HP) (h : St w S w' F) => hR w' h.ext)
  have HOK := Aside0.mk hok
  have hlt_ : os.length ≤ 1048576 := by
    have h : ∀ l : List OpS, l.length ≤ tot l := fun l => by
      unfold tot
      induction l with
      | nil => simp
      | cons q l ih => simp only [List.map_cons, List.sum_cons, List.length_cons]; unfold ow at ih ⊢; omega
    have := h os
    omega
  obtain ⟨gb, hgb⟩ : ∃ gb, greatB os = gb := ⟨_, rfl⟩
  rw [hgb]
  have HG := Aside0.mk hgb
  clear hS hR hok hgb
  have hu42 := Try.underlying42
  have hu40 := Try.underlying40
  have hu55 := Try.underlying55
  have husO := Try.underlying22
  have husR := Try.underlying31
  go_enter Try.func11, Try.ntmps11
  go_wp2_with fail
  go_loopw [3, 10] (fun v3 v10 w' => ∃ (k : Nat) (nk : Nat), k ≤ os.length ∧ v10 = .int .i64 k ∧ v3 = .int .i64 nk ∧ Aside0 (nk = tot (os.take k) ∧ nk ≤ 3000) ∧ St w S w' []) (fun v3 v10 _ => os.length - (intOf v10).toNat)
  case atStart => exact ⟨0, 0, Nat.zero_le _, rfl, rfl, ⟨rfl, by omega⟩, HS⟩
  case round =>
    clear HS
    obtain ⟨k, nk, hk, rfl, rfl, HE, HS⟩ := hrel
    have hk0 : (0 : Int) ≤ (k : Int) := by omega
    by_cases hlt : k < os.length
    · skip
      have hltI : (k : Int) < (os.length : Int) := by omega
      have hwk : IntKind.i64.wrap ((k : Int) + 1) = ((k + 1 : Nat) : Int) := by rw [IntWalk.i64_in _ (by omega)]; omega
      have ho : os[k]? = some os[k] := List.getElem?_eq_getElem hlt
      have hm : os[k] ∈ os := List.getElem_mem hlt
      have htk := tot_take os k hlt
      have htl := tot_le os (k + 1)
      obtain ⟨o, hoe⟩ : ∃ o, os[k] = o := ⟨_, rfl⟩
      rw [hoe] at ho hm htk
      have HOO := Aside0.mk (HOK.out o hm)
      have hone : [.int .i64 o.at_, .int .i64 o.c.kind, o.e.b1, o.e.b2, o.e.b3, .int .i64 o.c.t.a, .int .i64 o.c.t.b, .int .i64 o.c.t.c, .int .i64 o.c.home, .slice o.A o.rps.length o.ca, .slice o.B o.c.wrs.length o.cb, .int .i64 o.c.mn, .int .i64 o.c.til, .int .i64 o.c.ts, o.e.d1, o.e.d2, o.e.d3, o.e.d4, o.e.d5, o.e.d6, o.e.d7, o.e.d8, o.e.d9, o.e.d10, o.e.d11, o.e.d12, o.e.d13, o.e.d14, o.e.d15, o.e.d16, o.e.d17].all (fun q => q.oneCell') = true := HOO.out.one
      obtain ⟨ad, rfl, -⟩ := op_at (HR.out _ _ HS) k o ho
      have HCO := Aside0.mk (fun (w' : World) (F : List HP) (h : St w S w' F) => (show ∀ j v, ([.int .i64 o.at_, .int .i64 o.c.kind, o.e.b1, o.e.b2, o.e.b3, .int .i64 o.c.t.a, .int .i64 o.c.t.b, .int .i64 o.c.t.c, .int .i64 o.c.home, .slice o.A o.rps.length o.ca, .slice o.B o.c.wrs.length o.cb, .int .i64 o.c.mn, .int .i64 o.c.til, .int .i64 o.c.ts, o.e.d1, o.e.d2, o.e.d3, o.e.d4, o.e.d5, o.e.d6, o.e.d7, o.e.d8, o.e.d9, o.e.d10, o.e.d11, o.e.d12, o.e.d13, o.e.d14, o.e.d15, o.e.d16, o.e.d17] : List Value)[j]? = some v → w'.cell? ((ad.add (k * 31)).add j) = some v from by obtain ⟨ad', e, q⟩ := op_at (HR.out _ _ h) k o ho; obtain rfl := Option.some.inj e; exact q))
      have HCM := Aside0.mk (fun (w' : World) (F : List HP) (h : St w S w' F) => (HR.out _ _ h).2 o hm)
      have how : ow o = 1 + o.c.wrs.length + o.rps.length + seenN o.rps := rfl
      have hnk := HE.out
      obtain ⟨s1, hs1⟩ : ∃ s, 1 + o.c.wrs.length = s := ⟨_, rfl⟩
      obtain ⟨s2, hs2⟩ : ∃ s, s1 + o.rps.length = s := ⟨_, rfl⟩
      obtain ⟨s3, hs3⟩ : ∃ s, nk + s2 = s := ⟨_, rfl⟩
      have hw1 : IntKind.i64.wrap (1 + (o.c.wrs.length : Int)) = (s1 : Int) := by rw [IntWalk.i64_in _ (by omega)]; omega
      have hw2 : IntKind.i64.wrap ((s1 : Int) + (o.rps.length : Int)) = (s2 : Int) := by rw [IntWalk.i64_in _ (by omega)]; omega
      have hw3 : IntKind.i64.wrap ((nk : Int) + (s2 : Int)) = (s3 : Int) := by rw [IntWalk.i64_in _ (by omega)]; omega
      have HTK := Aside0.mk (show tot (os.take (k + 1)) = s3 + seenN o.rps ∧ tot (os.take (k + 1)) ≤ 1048576 from by omega)
      have hrl : o.rps.length ≤ 1048576 := by omega
      clear htk htl how hnk hs1 hs2 hs3 ho hm hoe
      go_wp2_with (first
        | ((with_reducible refine gate_dst (N := 13) rfl ?_); refine ev_loadA rfl 42 (.tmp 12) rfl (b := ad.add (k * 31)) (seg := [.int .i64 o.at_, .int .i64 o.c.kind, o.e.b1, o.e.b2, o.e.b3, .int .i64 o.c.t.a, .int .i64 o.c.t.b, .int .i64 o.c.t.c, .int .i64 o.c.home, .slice o.A o.rps.length o.ca, .slice o.B o.c.wrs.length o.cb, .int .i64 o.c.mn, .int .i64 o.c.til, .int .i64 o.c.ts, o.e.d1, o.e.d2, o.e.d3, o.e.d4, o.e.d5, o.e.d6, o.e.d7, o.e.d8, o.e.d9, o.e.d10, o.e.d11, o.e.d12, o.e.d13, o.e.d14, o.e.d15, o.e.d16, o.e.d17]) rfl Try.underlying42 rfl szShT42 (HCO.out _ _ HS) ?_)
        | ((with_reducible refine gate_dst (N := 5) rfl ?_); refine ev_box ?hg (N := 5) ?hd (cs := [.int .i64 0, .int .i64 0, .int .i64 0, .int .i64 0, .int .i64 0, .int .i64 0, .int .i64 0, .int .i64 0, .int .i64 0, .slice none 0 0, .slice none 0 0, .int .i64 0, .int .i64 0, .int .i64 0, .int .i64 0, .int .i64 0, .int .i64 0, .string ⟨#[]⟩, .string ⟨#[]⟩, .string ⟨#[]⟩, .string ⟨#[]⟩, .bool false, .int .i64 0, .int .i64 0, .int .i64 0, .string ⟨#[]⟩, .slice none 0 0, .int .i64 0, .int .i64 0, .string ⟨#[]⟩, .int .i64 0]) (t := 42) HS ?hr ?_; (case hd => rfl); (case hg => rfl); (case hr => first | (go_simp; done) | (go_simp; rfl)); intro g1 w2 HS_ hg_; clear hg_; clear HS; have HS : St w S w2 [HP.obj g1 42 [.int .i64 0, .int .i64 0, .int .i64 0, .int .i64 0, .int .i64 0, .int .i64 0, .int .i64 0, .int .i64 0, .int .i64 0, .slice none 0 0, .slice none 0 0, .int .i64 0, .int .i64 0, .int .i64 0, .int .i64 0, .int .i64 0, .int .i64 0, .string ⟨#[]⟩, .string ⟨#[]⟩, .string ⟨#[]⟩, .string ⟨#[]⟩, .bool false, .int .i64 0, .int .i64 0, .int .i64 0, .string ⟨#[]⟩, .slice none 0 0, .int .i64 0, .int .i64 0, .string ⟨#[]⟩, .int .i64 0]] := HS_; clear HS_)
        | ((with_reducible refine gate_ (.store 42 (.tmp 5) (.tmp 13)) rfl ?_); refine ev_store2 rfl rfl 42 (.tmp 5) (.tmp 13) rfl [.int .i64 o.at_, .int .i64 o.c.kind, o.e.b1, o.e.b2, o.e.b3, .int .i64 o.c.t.a, .int .i64 o.c.t.b, .int .i64 o.c.t.c, .int .i64 o.c.home, .slice o.A o.rps.length o.ca, .slice o.B o.c.wrs.length o.cb, .int .i64 o.c.mn, .int .i64 o.c.til, .int .i64 o.c.ts, o.e.d1, o.e.d2, o.e.d3, o.e.d4, o.e.d5, o.e.d6, o.e.d7, o.e.d8, o.e.d9, o.e.d10, o.e.d11, o.e.d12, o.e.d13, o.e.d14, o.e.d15, o.e.d16, o.e.d17] HS (g := g1) (j := 0) rfl rfl (seg := [.int .i64 o.at_, .int .i64 o.c.kind, o.e.b1, o.e.b2, o.e.b3, .int .i64 o.c.t.a, .int .i64 o.c.t.b, .int .i64 o.c.t.c, .int .i64 o.c.home, .slice o.A o.rps.length o.ca, .slice o.B o.c.wrs.length o.cb, .int .i64 o.c.mn, .int .i64 o.c.til, .int .i64 o.c.ts, o.e.d1, o.e.d2, o.e.d3, o.e.d4, o.e.d5, o.e.d6, o.e.d7, o.e.d8, o.e.d9, o.e.d10, o.e.d11, o.e.d12, o.e.d13, o.e.d14, o.e.d15, o.e.d16, o.e.d17]) rfl ?ht (by first | rfl | assumption) ?hf ?he ?_; (case ht => exact szShT42); (case he => kernel_rfl); (case hf => first | (simp; done) | (simp [splice]; done)); intro w3 HS_; clear HS; have HS : St w S w3 [HP.obj g1 42 [.int .i64 o.at_, .int .i64 o.c.kind, o.e.b1, o.e.b2, o.e.b3, .int .i64 o.c.t.a, .int .i64 o.c.t.b, .int .i64 o.c.t.c, .int .i64 o.c.home, .slice o.A o.rps.length o.ca, .slice o.B o.c.wrs.length o.cb, .int .i64 o.c.mn, .int .i64 o.c.til, .int .i64 o.c.ts, o.e.d1, o.e.d2, o.e.d3, o.e.d4, o.e.d5, o.e.d6, o.e.d7, o.e.d8, o.e.d9, o.e.d10, o.e.d11, o.e.d12, o.e.d13, o.e.d14, o.e.d15, o.e.d16, o.e.d17]] := HS_; clear HS_; have q4 := HS.cell 10; have q5 := HS.cell 9))
      go_loopw [3, 30] (fun v3 v30 w' => ∃ (j : Nat) (q : Nat), j ≤ o.rps.length ∧ v30 = .int .i64 j ∧ v3 = .int .i64 q ∧ Aside0 (q = s3 + seenN (o.rps.take j)) ∧ St w S w' [HP.obj g1 42 [.int .i64 o.at_, .int .i64 o.c.kind, o.e.b1, o.e.b2, o.e.b3, .int .i64 o.c.t.a, .int .i64 o.c.t.b, .int .i64 o.c.t.c, .int .i64 o.c.home, .slice o.A o.rps.length o.ca, .slice o.B o.c.wrs.length o.cb, .int .i64 o.c.mn, .int .i64 o.c.til, .int .i64 o.c.ts, o.e.d1, o.e.d2, o.e.d3, o.e.d4, o.e.d5, o.e.d6, o.e.d7, o.e.d8, o.e.d9, o.e.d10, o.e.d11, o.e.d12, o.e.d13, o.e.d14, o.e.d15, o.e.d16, o.e.d17]]) (fun v3 v30 _ => o.rps.length - (intOf v30).toNat)
      case atStart => exact ⟨0, s3, Nat.zero_le _, rfl, rfl, ⟨rfl⟩, HS⟩
      case round =>
        clear HS
        obtain ⟨j, q, hj, rfl, rfl, HE2, HS⟩ := hrel
        have hj0 : (0 : Int) ≤ (j : Int) := by omega
        by_cases hjlt : j < o.rps.length
        · skip
          have hjltI : (j : Int) < (o.rps.length : Int) := by omega
          have hwj : IntKind.i64.wrap ((j : Int) + 1) = ((j + 1 : Nat) : Int) := by rw [IntWalk.i64_in _ (by omega)]; omega
          have hst := seenN_take o.rps j hjlt
          have hsl := seenN_le o.rps (j + 1)
          have hp : o.rps[j]? = some o.rps[j] := List.getElem?_eq_getElem hjlt
          have hm : o.rps[j] ∈ o.rps := List.getElem_mem hjlt
          obtain ⟨p, hpe⟩ : ∃ p, o.rps[j] = p := ⟨_, rfl⟩
          rw [hpe] at hp hm hst
          obtain ⟨A1, c1, hv1_, -, -⟩ := (HCM.out _ _ HS).2.1 p hm
          obtain ⟨r, v⟩ := p
          have hv2_ : v = .slice A1 r.seen.length c1 := hv1_
          clear hv1_
          subst hv2_
          have hst : seenN (o.rps.take (j + 1)) = seenN (o.rps.take j) + r.seen.length := hst
          obtain ⟨aR, hAR, -⟩ := Rp_at (HCM.out _ _ HS).1 j _ hp
          have HAR := Aside0.mk hAR
          have HCX := Aside0.mk (fun (w' : World) (F : List HP) (hh_ : St w S w' F) => (show w'.cell? (aR.add (j * 3)) = some (.string r.sp.a) ∧ w'.cell? ⟨(aR.add (j * 3)).block, (aR.add (j * 3)).off + 1, none⟩ = some (.string r.sp.b) ∧ w'.cell? ⟨(aR.add (j * 3)).block, (aR.add (j * 3)).off + 2, none⟩ = some (.slice A1 r.seen.length c1) from by obtain ⟨ad', e, q⟩ := Rp_at (HCM.out _ _ hh_).1 j _ hp; obtain rfl := Option.some.inj (HAR.out.symm.trans e); exact q))
          obtain ⟨q2, hq2⟩ : ∃ s, q + r.seen.length = s := ⟨_, rfl⟩
          have hqq := HE2.out
          have htt := HTK.out
          have hwq : IntKind.i64.wrap ((q : Int) + (r.seen.length : Int)) = (q2 : Int) := by rw [IntWalk.i64_in _ (by omega)]; omega
          have HQ2 := Aside0.mk (show q2 = s3 + seenN (o.rps.take (j + 1)) from by omega)
          rw [hAR] at HS ⊢
          clear hst hsl hp hm hpe hq2 hqq htt hAR
          obtain ⟨q6, q7, q8⟩ := HCX.out _ _ HS
          go_wp2_with (first
            | ((with_reducible refine gate_dst (N := 7) rfl ?_); refine ev_box ?hg (N := 7) ?hd (cs := [.string ⟨#[]⟩, .string ⟨#[]⟩, .slice none 0 0]) (t := 55) HS ?hr ?_; (case hd => rfl); (case hg => rfl); (case hr => first | (go_simp; done) | (go_simp; rfl)); intro g9 w10 HS_ hg_; clear hg_; clear HS q6 q7 q8; have HS : St w S w10 [HP.obj g9 55 [.string ⟨#[]⟩, .string ⟨#[]⟩, .slice none 0 0], HP.obj g1 42 [.int .i64 o.at_, .int .i64 o.c.kind, o.e.b1, o.e.b2, o.e.b3, .int .i64 o.c.t.a, .int .i64 o.c.t.b, .int .i64 o.c.t.c, .int .i64 o.c.home, .slice (some aR) o.rps.length o.ca, .slice o.B o.c.wrs.length o.cb, .int .i64 o.c.mn, .int .i64 o.c.til, .int .i64 o.c.ts, o.e.d1, o.e.d2, o.e.d3, o.e.d4, o.e.d5, o.e.d6, o.e.d7, o.e.d8, o.e.d9, o.e.d10, o.e.d11, o.e.d12, o.e.d13, o.e.d14, o.e.d15, o.e.d16, o.e.d17]] := HS_; clear HS_)
            | ((with_reducible refine gate_ (.store 55 (.tmp 7) (.tmp 33)) rfl ?_); refine ev_store2 rfl rfl 55 (.tmp 7) (.tmp 33) rfl [.string r.sp.a, .string r.sp.b, .slice A1 r.seen.length c1] HS (g := g9) (j := 0) rfl rfl (seg := [.string r.sp.a, .string r.sp.b, .slice A1 r.seen.length c1]) rfl ?ht (by first | rfl | assumption) ?hf ?he ?_; (case ht => exact szShT55); (case he => kernel_rfl); (case hf => first | (simp; done) | (simp [splice]; done)); intro w11 HS_; clear HS; have HS : St w S w11 [HP.obj g9 55 [.string r.sp.a, .string r.sp.b, .slice A1 r.seen.length c1], HP.obj g1 42 [.int .i64 o.at_, .int .i64 o.c.kind, o.e.b1, o.e.b2, o.e.b3, .int .i64 o.c.t.a, .int .i64 o.c.t.b, .int .i64 o.c.t.c, .int .i64 o.c.home, .slice (some aR) o.rps.length o.ca, .slice o.B o.c.wrs.length o.cb, .int .i64 o.c.mn, .int .i64 o.c.til, .int .i64 o.c.ts, o.e.d1, o.e.d2, o.e.d3, o.e.d4, o.e.d5, o.e.d6, o.e.d7, o.e.d8, o.e.d9, o.e.d10, o.e.d11, o.e.d12, o.e.d13, o.e.d14, o.e.d15, o.e.d16, o.e.d17]] := HS_; clear HS_; have q12 := HS.cell 2))
          go_roundw
          case rel => exact ⟨j + 1, q2, by omega, by go_num, rfl, ⟨HQ2.out⟩, (HS.out 0)⟩
          case measure => simp [intOf]; omega
        · have hjltI : ¬ (j : Int) < (o.rps.length : Int) := by omega
          obtain rfl : j = o.rps.length := by omega
          have HTQ := Aside0.mk (show q = tot (os.take (k + 1)) from by have h1 := HE2.out; have h2 := HTK.out.1; rw [List.take_length] at h1; omega)
          by_cases hbig : 3000 < q
          · have hbd : decide ((q : Int) > 3000) = true := decide_eq_true (by omega)
            have HGB := Aside0.mk (show gb = true from by rw [← HG.out, greatB, decide_eq_true (by have h1 := HTQ.out; have h2 := tot_le os (k + 1); omega), Bool.true_or])
            go_wp2_with fail
            go_ret
            obtain rfl := HGB.out
            exact ⟨rfl, (HS.out 0)⟩
          · have hbd : decide ((q : Int) > 3000) = false := decide_eq_false (by omega)
            have HQ3 := Aside0.mk (show q ≤ 3000 from by omega)
            go_wp2_with fail
            go_roundw
            case rel => exact ⟨k + 1, _, by omega, by go_num, rfl, ⟨HTQ.out, HQ3.out⟩, (HS.out 0)⟩
            case measure => simp [intOf]; omega
    · have hltI : ¬ (k : Int) < (os.length : Int) := by omega
      obtain rfl : k = os.length := by omega
      have HGB := Aside0.mk (show gb = decide (150 < os.length) from by
        have h1 := HE.out
        rw [List.take_length] at h1
        rw [← HG.out, greatB, decide_eq_false (by omega), Bool.false_or])
      cases hb : decide (150 < os.length)
      · have hd : decide ((os.length : Int) > 150) = false := decide_eq_false (by have := of_decide_eq_false hb; omega)
        have HGB := Aside0.mk (HGB.out.trans hb)
        clear hb
        go_wp2_with fail
        go_ret
        obtain rfl := HGB.out
        exact ⟨rfl, HS⟩
      · have hd : decide ((os.length : Int) > 150) = true := decide_eq_true (by have := of_decide_eq_true hb; omega)
        have HGB := Aside0.mk (HGB.out.trans hb)
        clear hb
        go_wp2_with fail
        go_ret
        obtain rfl := HGB.out
        exact ⟨rfl, HS⟩
end Go.Proofs.Ytphenpncdhgdhaa.Shd
