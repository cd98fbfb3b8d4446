/- More events of a walk: stores into what the walk owns; what a call has made, in several rows. -/
import Derived.Test.YtkjfecpfjfkpnaaDoorSlRaw
namespace Go.Proofs.YtkjfecpfjfkpnaaDoor.Sl
open Go.RowKit Go.Proofs.YtkjfecpfjfkpnaaDoorW.PrintWords Go.Proofs.YtkjfecpfjfkpnaaDoorW.PrintLast Go.Proofs.YtkjfecpfjfkpnaaDoorW.PrintMore
open HP
set_option linter.unusedVariables false
set_option linter.unusedSimpArgs false
/-- The cells from j on written. -/
def splice : List Value → Nat → List Value → List Value
  | cs, _, [] => cs
  | cs, j, v :: r => splice (cs.set j v) (j + 1) r
theorem splice_length : ∀ (seg cs : List Value) (j : Nat), (splice cs j seg).length = cs.length
  | [], _, _ => rfl
  | v :: r, cs, j => by rw [splice, splice_length r]; simp
section
variable {P : Program} {ops : Array Oper} {rest : List Oper} {o : Oper} {a : Act} {Q : Exit → Act → World → Prop} {Kc : Act → World → Prop} {w0 W : World} {S0 : Nat → Prop} {F : List HP} {α : Type}
theorem St.sets {g : Nat} {t : TypeId} : ∀ (seg : List Value) (cs : List Value) (j : Nat) (w : World), St w0 S0 w (obj g t cs :: F) → St w0 S0 (w.setCells g j seg) (obj g t (splice cs j seg) :: F)
  | [], _, _, _, h => h
  | v :: r, cs, j, w, h => St.sets r (cs.set j v) (j + 1) _ (h.set j v)
theorem store_runs {g j : Nat} {t t' : TypeId} {cs seg : List Value} {u : Value} (H : St w0 S0 W (obj g t' cs :: F)) (hu : u.cells.toList = seg) (ht : (P.info? t).map (·.size) = some seg.length) (h1 : seg.all (fun q => q.oneCell') = true) (hfit : j + seg.length ≤ cs.length) :
    (Instr.storeAt t (.pointer (some ⟨g, j, none⟩)) u).run P W = .ok () (W.setCells g j seg) :=
  run_store_run t u seg H.blk hu ht (by simpa using hfit) (fun q hq => List.all_eq_true.1 h1 q hq)
/-- *p = u, p a block of the walk's own. -/
theorem ev_store (hgd : o.guard = none) (hN : o.dst = none) (t : TypeId) (p x : Operand) (ho : o.op = .store t p x) {g j : Nat} {t' : TypeId} {cs seg : List Value} {u : Value} (H : St w0 S0 W (obj g t' cs :: F))
    (haddr : a.eval p = .pointer (some ⟨g, j, none⟩)) (hx : a.eval x = u) (hu : u.cells.toList = seg) (ht : (P.info? t).map (·.size) = some seg.length) (h1 : seg.all (fun q => q.oneCell') = true) (hfit : j + seg.length ≤ cs.length)
    (h : ∀ w1, St w0 S0 w1 (obj g t' (splice cs j seg) :: F) → wpList P ops Q rest a w1) : wpList P ops Q (o :: rest) a W := by
  refine wpList_plain hgd fun K hK => ?_
  unfold Oper.wp execOp
  simp only [ho, haddr, hx, Sem.run_bind, Sem.run_pure, Result.andThen_ok, store_runs H hu ht h1 hfit]
  show K (a.put o.dst undef) _
  rw [hN]
  exact hK a _ (h _ (St.sets seg cs j W H))
theorem ev_store_step (hw : Region.wanted o (yielded ops a.tmps) = true) (hN : o.dst = none) (t : TypeId) (p x : Operand) (ho : o.op = .store t p x) {g j : Nat} {t' : TypeId} {cs seg : List Value} {u : Value} (H : St w0 S0 W (obj g t' cs :: F))
    (haddr : a.eval p = .pointer (some ⟨g, j, none⟩)) (hx : a.eval x = u) (hu : u.cells.toList = seg) (ht : (P.info? t).map (·.size) = some seg.length) (h1 : seg.all (fun q => q.oneCell') = true) (hfit : j + seg.length ≤ cs.length)
    (h : ∀ w1, St w0 S0 w1 (obj g t' (splice cs j seg) :: F) → Kc a w1) : if Region.wanted o (yielded ops a.tmps) = true then Oper.wp P o a W Kc Q else Kc (a.put none undef) W := by
  refine skip_ hw hN ?_ (h _ (St.sets seg cs j W H))
  unfold execOp
  simp only [ho, haddr, hx, Sem.run_bind, Sem.run_pure, Result.andThen_ok, store_runs H hu ht h1 hfit]
/-- A new block, as a step. -/
theorem ev_box_step (hw : Region.wanted o (yielded ops a.tmps) = true) {N : Option Tmp} (hN : o.dst = N) {cs : List Value} {t : TypeId} (H : St w0 S0 W F)
    (hrun : (execOp a.eval o).run P W = .ok (.value (.pointer (some ⟨W.heap.size, 0, none⟩))) (W.alloc (.cells cs.toArray t (0, 0))))
    (h : ∀ g w1, St w0 S0 w1 (obj g t cs :: F) → W.heap.size ≤ g → Kc (a.put N (.pointer (some ⟨g, 0, none⟩))) w1) : if Region.wanted o (yielded ops a.tmps) = true then Oper.wp P o a W Kc Q else Kc (a.put N undef) W :=
  value_ hw hN hrun (h _ _ (H.alloc _) (Nat.le_refl _))
end
section
variable {w0 w w' : World} {S0 : Nat → Prop} {F : List HP} {α β : Type}
theorem R_owns {d : Kd α} {e base : Nat} {ok : Nat → Prop} {v : Value} {xs : List α} (hE : d.E = []) (hr : d.R e w' base ok v xs) : (row d e v xs).h w' (fun k => some k = v.ownBlock) :=
  Kd.R_lower (Kd.R_tight hE hr) (Nat.zero_le _)
/-- Two rows that a call has made, of two types. -/
theorem St.made2 {d : Kd α} {d' : Kd β} {e e' : Nat} {v v' : Value} {xs : List α} {ys : List β} {ok ok' : Nat → Prop} (h : St w0 S0 w F) (hr : d.R e w' w.heap.size ok v xs) (hr' : d'.R e' w' w.heap.size ok' v' ys) (hE : d.E = []) (hE' : d'.E = []) (hne : e ≠ e')
    (hb : Below w.heap.size w w') : St w0 S0 w' (row d e v xs :: row d' e' v' ys :: F) := by
  refine St.turn (L := []) (M := [row d e v xs, row d' e' v' ys]) h (fun S1 _ => ⟨Ext.of_below hb _, fun k => some k = v.ownBlock ∨ some k = v'.ownBlock, ?_, ?_⟩)
  · refine ⟨fun k => some k = v.ownBlock, fun k => some k = v'.ownBlock, R_owns hE hr, Gives.emp_intro _ _ _ (R_owns hE' hr'), ?_, fun _ h => .inl h, fun _ h => .inr h⟩
    intro k h1 h2
    obtain ⟨c1, q1⟩ := Kd.R_typed hr k h1.symm
    obtain ⟨c2, q2⟩ := Kd.R_typed hr' k h2.symm
    rw [q1] at q2
    simp only [Option.some.injEq, Obj.cells.injEq] at q2
    exact hne q2.2.1
  · rintro k (h1 | h1)
    · exact .inr (Kd.R_base hr k h1.symm)
    · exact .inr (Kd.R_base hr' k h1.symm)
end
end Go.Proofs.YtkjfecpfjfkpnaaDoor.Sl
