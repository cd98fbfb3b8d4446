/- More events of a walk: stores into what the walk owns; what a call has made, in several rows. -/
import Derived.Test.YtphenpncdhgdhaaSlRaw
namespace Go.Proofs.Ytphenpncdhgdhaa.Sl
open Go.RowKit Go.Proofs.YtphenpncdhgdhaaW.PrintWords Go.Proofs.YtphenpncdhgdhaaW.PrintLast Go.Proofs.YtphenpncdhgdhaaW.PrintMore
open HP
set_option linter.unusedVariables false
set_option linter.unusedSimpArgs false
/-- The cells from j on written. -/
def splice : List Value → Nat → List Value → List Value
  | cs, _, [] => cs
  | cs, j, v :: r => splice (cs.set j v) (j + 1) r
theorem splice_length : ∀ (seg cs : List Value) (j : Nat), (splice cs j seg).length = cs.length
  | [], _, _ => rfl
  | v :: r, cs, j => by rw [splice, splice_length r]; simp
section
variable {P : Program} {ops : Array Oper} {rest : List Oper} {o : Oper} {a : Act} {Q : Exit → Act → World → Prop} {Kc : Act → World → Prop} {w0 W : World} {S0 : Nat → Prop} {F : List HP} {α : Type}
theorem St.sets {g : Nat} {t : TypeId} : ∀ (seg : List Value) (cs : List Value) (j : Nat) (w : World), St w0 S0 w (obj g t cs :: F) → St w0 S0 (w.setCells g j seg) (obj g t (splice cs j seg) :: F)
  | [], _, _, _, h => h
  | v :: r, cs, j, w, h => St.sets r (cs.set j v) (j + 1) _ (h.set j v)
theorem store_runs {g j : Nat} {t t' : TypeId} {cs seg : List Value} {u : Value} (H : St w0 S0 W (obj g t' cs :: F)) (hu : u.cells.toList = seg) (ht : (P.info? t).map (·.size) = some seg.length) (h1 : seg.all (fun q => q.oneCell') = true) (hfit : j + seg.length ≤ cs.length) :
    (Instr.storeAt t (.pointer (some ⟨g, j, none⟩)) u).run P W = .ok () (W.setCells g j seg) :=
  run_store_run t u seg H.blk hu ht (by simpa using hfit) (fun q hq => List.all_eq_true.1 h1 q hq)
/-- *p = u, p a block of the walk's own. -/
theorem ev_store (hgd : o.guard = none) (hN : o.dst = none) (t : TypeId) (p x : Operand) (ho : o.op = .store t p x) {g j : Nat} {t' : TypeId} {cs seg : List Value} {u : Value} (H : St w0 S0 W (obj g t' cs :: F))
    (haddr : a.eval p = .pointer (some ⟨g, j, none⟩)) (hx : a.eval x = u) (hu : u.cells.toList = seg) (ht : (P.info? t).map (·.size) = some seg.length) (h1 : seg.all (fun q => q.oneCell') = true) (hfit : j + seg.length ≤ cs.length)
    (h : ∀ w1, St w0 S0 w1 (obj g t' (splice cs j seg) :: F) → wpList P ops Q rest a w1) : wpList P ops Q (o :: rest) a W := by
  refine wpList_plain hgd fun K hK => ?_
  unfold Oper.wp execOp
  simp only [ho, haddr, hx, Sem.run_bind, Sem.run_pure, Result.andThen_ok, store_runs H hu ht h1 hfit]
  show K (a.put o.dst undef) _
  rw [hN]
  exact hK a _ (h _ (St.sets seg cs j W H))
theorem ev_store_step (hw : Region.wanted o (yielded ops a.tmps) = true) (hN : o.dst = none) (t : TypeId) (p x : Operand) (ho : o.op = .store t p x) {g j : Nat} {t' : TypeId} {cs seg : List Value} {u : Value} (H : St w0 S0 W (obj g t' cs :: F))
    (haddr : a.eval p = .pointer (some ⟨g, j, none⟩)) (hx : a.eval x = u) (hu : u.cells.toList = seg) (ht : (P.info? t).map (·.size) = some seg.length) (h1 : seg.all (fun q => q.oneCell') = true) (hfit : j + seg.length ≤ cs.length)
    (h : ∀ w1, St w0 S0 w1 (obj g t' (splice cs j seg) :: F) → Kc a w1) : if Region.wanted o (yielded ops a.tmps) = true then Oper.wp P o a W Kc Q else Kc (a.put none undef) W := by
  refine skip_ hw hN ?_ (h _ (St.sets seg cs j W H))
  unfold execOp
  simp only [ho, haddr, hx, Sem.run_bind, Sem.run_pure, Result.andThen_ok, store_runs H hu ht h1 hfit]
/-- The same, what is left of the cells told. -/
theorem ev_store2 (hgd : o.guard = none) (hN : o.dst = none) (t : TypeId) (p x : Operand) (ho : o.op = .store t p x) {g j : Nat} {t' : TypeId} {cs seg : List Value} (cs' : List Value) {u : Value} (H : St w0 S0 W (obj g t' cs :: F))
    (haddr : a.eval p = .pointer (some ⟨g, j, none⟩)) (hx : a.eval x = u) (hu : u.cells.toList = seg) (ht : (P.info? t).map (·.size) = some seg.length) (h1 : seg.all (fun q => q.oneCell') = true) (hfit : j + seg.length ≤ cs.length) (he : splice cs j seg = cs')
    (h : ∀ w1, St w0 S0 w1 (obj g t' cs' :: F) → wpList P ops Q rest a w1) : wpList P ops Q (o :: rest) a W := ev_store hgd hN t p x ho H haddr hx hu ht h1 hfit (fun w1 h1 => h w1 (he ▸ h1))
theorem ev_store_step2 (hw : Region.wanted o (yielded ops a.tmps) = true) (hN : o.dst = none) (t : TypeId) (p x : Operand) (ho : o.op = .store t p x) {g j : Nat} {t' : TypeId} {cs seg : List Value} (cs' : List Value) {u : Value} (H : St w0 S0 W (obj g t' cs :: F))
    (haddr : a.eval p = .pointer (some ⟨g, j, none⟩)) (hx : a.eval x = u) (hu : u.cells.toList = seg) (ht : (P.info? t).map (·.size) = some seg.length) (h1 : seg.all (fun q => q.oneCell') = true) (hfit : j + seg.length ≤ cs.length) (he : splice cs j seg = cs')
    (h : ∀ w1, St w0 S0 w1 (obj g t' cs' :: F) → Kc a w1) : if Region.wanted o (yielded ops a.tmps) = true then Oper.wp P o a W Kc Q else Kc (a.put none undef) W := ev_store_step hw hN t p x ho H haddr hx hu ht h1 hfit (fun w1 h1 => h w1 (he ▸ h1))
/-- A struct's cells, read at once. -/
theorem load_runs {T : TypeId} {g j : Nat} {seg : List Value} {d : TypeDesc} (hu : P.underlying T = some d) (hd : (match d with | .struct _ | .array _ _ => true | _ => false) = true) (hi : (P.info? T).map (·.size) = some seg.length)
    (hc : ∀ k v, seg[k]? = some v → W.cell? ⟨g, j + k, none⟩ = some v) : (loadVar T ⟨g, j, none⟩).run P W = .ok (.agg seg.toArray) W := by
  have hl : (loadCells ⟨g, j, none⟩ seg.length).run P W = .ok seg.toArray W :=
    run_loadCells_list (P := P) W ⟨g, j, none⟩ seg (fun k v hv => by
      have hadd : (⟨g, j, none⟩ : Addr).add k = ⟨g, j + k, none⟩ := by unfold Addr.add; split <;> simp_all
      rw [hadd]
      exact hc k v hv)
  cases hq : P.info? T with
  | none => simp [hq] at hi
  | some i =>
    have hs : i.size = seg.length := by simpa [hq] using hi
    have hagg : (isAgg T).run P W = .ok true W := by
      unfold isAgg
      rw [Sem.run_bind, run_underlying hu W]
      cases d <;> simp_all
    simp [loadVar, Sem.run_bind, hagg, sizeOf, typeInfo, hq, hs, hl]
theorem St.seg {g : Nat} {t : TypeId} {cs : List Value} (H : St w0 S0 W (obj g t cs :: F)) (j : Nat) (seg : List Value) (hs : (cs.drop j).take seg.length = seg) : ∀ k v, seg[k]? = some v → W.cell? ⟨g, j + k, none⟩ = some v := by
  intro k v hv
  have hk : k < seg.length := by
    by_cases h : k < seg.length
    · exact h
    · rw [List.getElem?_eq_none (by omega)] at hv
      cases hv
  rw [St.cell H (j + k)]
  rw [← hs, List.getElem?_take_of_lt hk, List.getElem?_drop] at hv
  exact hv
theorem ev_load (hgd : o.guard = none) (T : TypeId) (x : Operand) (ho : o.op = .load T x) {g j : Nat} {seg : List Value} {d : TypeDesc} (hx : a.eval x = .pointer (some ⟨g, j, none⟩)) (hu : P.underlying T = some d)
    (hd : (match d with | .struct _ | .array _ _ => true | _ => false) = true) (hi : (P.info? T).map (·.size) = some seg.length) (hc : ∀ k v, seg[k]? = some v → W.cell? ⟨g, j + k, none⟩ = some v)
    (h : wpList P ops Q rest (a.put o.dst (.agg seg.toArray)) W) : wpList P ops Q (o :: rest) a W := by
  refine wpList_plain hgd fun K hK => ?_
  unfold Oper.wp execOp
  simp only [ho, hx, Instr.loadAt, Instr.sureAddr, Sem.run_bind, Sem.run_pure, Result.andThen_ok, load_runs hu hd hi hc]
  exact hK _ _ h
theorem ev_load_step (hw : Region.wanted o (yielded ops a.tmps) = true) {N : Option Tmp} (hN : o.dst = N) (T : TypeId) (x : Operand) (ho : o.op = .load T x) {g j : Nat} {seg : List Value} {d : TypeDesc} (hx : a.eval x = .pointer (some ⟨g, j, none⟩)) (hu : P.underlying T = some d)
    (hd : (match d with | .struct _ | .array _ _ => true | _ => false) = true) (hi : (P.info? T).map (·.size) = some seg.length) (hc : ∀ k v, seg[k]? = some v → W.cell? ⟨g, j + k, none⟩ = some v)
    (h : Kc (a.put N (.agg seg.toArray)) W) : if Region.wanted o (yielded ops a.tmps) = true then Oper.wp P o a W Kc Q else Kc (a.put N undef) W := by
  refine value_ hw hN ?_ h
  unfold execOp
  simp only [ho, hx, Instr.loadAt, Instr.sureAddr, Sem.run_bind, Sem.run_pure, Result.andThen_ok, load_runs hu hd hi hc]
/-- A new block, as a step. -/
theorem ev_box_step (hw : Region.wanted o (yielded ops a.tmps) = true) {N : Option Tmp} (hN : o.dst = N) {cs : List Value} {t : TypeId} (H : St w0 S0 W F)
    (hrun : (execOp a.eval o).run P W = .ok (.value (.pointer (some ⟨W.heap.size, 0, none⟩))) (W.alloc (.cells cs.toArray t (0, 0))))
    (h : ∀ g w1, St w0 S0 w1 (obj g t cs :: F) → W.heap.size ≤ g → Kc (a.put N (.pointer (some ⟨g, 0, none⟩))) w1) : if Region.wanted o (yielded ops a.tmps) = true then Oper.wp P o a W Kc Q else Kc (a.put N undef) W :=
  value_ hw hN hrun (h _ _ (H.alloc _) (Nat.le_refl _))
end
end Go.Proofs.Ytphenpncdhgdhaa.Sl
