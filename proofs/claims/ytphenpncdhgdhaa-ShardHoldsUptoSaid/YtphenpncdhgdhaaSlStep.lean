/- Events at a step of a region that draws its order. -/
import Derived.Test.YtphenpncdhgdhaaSl
namespace Go.Proofs.Ytphenpncdhgdhaa.Sl
open Go.RowKit Go.Proofs.YtphenpncdhgdhaaW.PrintWords Go.Proofs.YtphenpncdhgdhaaW.PrintLast Go.Proofs.YtphenpncdhgdhaaW.PrintMore
open HP
set_option linter.unusedVariables false
section
variable {P : Program} {ops : Array Oper} {o : Oper} {a : Act} {Kc : Act → World → Prop} {Q : Exit → Act → World → Prop} {w0 W : World} {S0 : Nat → Prop} {F : List HP} {α : Type}
theorem ev_lit_step (d : Kd α) (e : Nat) (hw : Region.wanted o (yielded ops a.tmps) = true) {N : Tmp} (_hd : o.dst = some N) {xs : List α} {inner : List Value} (H : St w0 S0 W F)
    (hrun : (execOp a.eval o).run P W = .ok (.value (.slice (some ⟨W.heap.size, 0, none⟩) xs.length xs.length)) (W.alloc (.cells inner.toArray e)))
    (hrep : Reps (d.M W 0 (fun _ => False)) d.sz xs inner) (hm : xs.length ≤ 9223372036854775807)
    (h : ∀ v1 w1, St w0 S0 w1 (row d e v1 xs :: F) → Kc (a.put o.dst v1) w1) : if Region.wanted o (yielded ops a.tmps) = true then Oper.wp P o a W Kc Q else Kc (a.put o.dst undef) W := by
  refine Kd.R_lit_step d 0 e hw _hd (ok := fun k => W.heap.size ≤ k) (okp := fun _ => False) (w0 := W) hrun hrep (fun _ f => f.elim) (Nat.le_refl _) (Below.refl _ _) (Nat.zero_le _) hm ?_
  intro v1 w1 ho hb hg hnew
  exact h v1 w1 (H.new_ ⟨_, ho, Ext.of_grown hg (fun k e => by cases e), fun k hk => hk⟩)
/-- Is the step at this very world? -/
theorem at_w (W : World) (h : if Region.wanted o (yielded ops a.tmps) = true then Oper.wp P o a W Kc Q else Kc (a.put o.dst undef) W) : if Region.wanted o (yielded ops a.tmps) = true then Oper.wp P o a W Kc Q else Kc (a.put o.dst undef) W := h
/-- A literal laid down, whatever step it is. -/
theorem St.lit {d : Kd α} {e : TypeId} (H : St w0 S0 W F) {xs : List α} {inner : List Value} (hrep : Reps (d.M W 0 (fun _ => False)) d.sz xs inner) (hm : xs.length ≤ 9223372036854775807) :
    St w0 S0 (W.alloc (.cells inner.toArray e)) (row d e (.slice (some ⟨W.heap.size, 0, none⟩) xs.length xs.length) xs :: F) := by
  refine H.new_ ⟨fun k => W.heap.size ≤ k, ⟨fun k hk => ?_, inner, ?_, ?_⟩, Ext.alloc W _ _, fun k hk => hk⟩
  · have : W.heap.size = k := by simpa [Value.ownBlock] using hk
    omega
  · have h2 := World.ownsRow_lit (base := 0) (e := e) (size := d.sz) W inner.toArray xs.length (Nat.zero_le _) (by simpa [maxLen] using hm) (by simpa using hrep.1)
    simpa using h2
  · refine hrep.imp_ (fun p c hp => d.M_mono (fun k hk => ?_) (Kd.M_below (d.M_bound hp) (below_alloc (Below.refl _ _) _)))
    exact hk.1.elim
theorem ev_rows_step (d : Kd α) (hflat : Flat d) (hw : Region.wanted o (yielded ops a.tmps) = true) (s x : Operand) (t e : TypeId) (z : Value) (bytes : Nat)
    (ho : o.op = .call { callee := .builtin .append, args := #[s, x], argTypes := #[t, t] })
    (ht : P.underlying t = some (.slice e)) (hinfo : (P.info? e).map (fun i => (i.zero, i.size, i.bytes)) = some (some z, d.sz, bytes)) (hz : z.cells.size = d.sz) (hs0 : 0 < d.sz) (hb0 : 0 < bytes)
    (v : Value) (xs ys : List α) (A : Option Addr) (c : Nat) (hs : a.eval s = v) (hx : a.eval x = .slice A ys.length c)
    (H : St w0 S0 W (row d e v xs :: F)) (HR : d.C W A ys.length ys) (hl : (xs.length + ys.length) * bytes ≤ 140737488355328)
    (h : ∀ v1 w1, St w0 S0 w1 (row d e v1 (xs ++ ys) :: F) → Kc (a.put o.dst v1) w1) :
    if Region.wanted o (yielded ops a.tmps) = true then Oper.wp P o a W Kc Q else Kc (a.put o.dst undef) W := by
  obtain ⟨ext, S, ⟨S1, SF, hv, hf, d1, s1, s2⟩, sb⟩ := H
  have hsub : ∀ k, v.ownBlock = some k → S1 k := hv.1
  refine Kd.R_append_rows_step d (Rr := d.K W) (w0 := W) 0 hw s x t e z bytes ho ht hinfo hz hs0 hb0 v xs ys A ys.length c (fun k => S1 k ∨ W.heap.size ≤ k) (fun _ => False) hs hx
    (Kd.R_mono hv (fun k hk => .inl hk)) HR (fun x cs hk => hflat W 0 x cs hk) (fun k f => f.elim) (fun k hk => .inr hk) (Below.refl _ _) (Nat.zero_le _) hl ?_
  intro v1 w1 h1 hb hg hat
  refine h v1 w1 (St.join (M := [row d e v1 (xs ++ ys)]) (S1 := S1) ext hf d1 (fun k hk => sb k (s1 k hk)) (fun k hk => sb k (s2 k hk)) ?_)
  exact ⟨Ext.of_grown hg hsub, _, Gives.emp_intro _ _ _ h1, fun k hk => hk⟩
end
end Go.Proofs.Ytphenpncdhgdhaa.Sl
