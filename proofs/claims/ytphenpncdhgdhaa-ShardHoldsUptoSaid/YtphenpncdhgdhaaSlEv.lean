/- Events of maps: made, written, asked; a call through a function value. -/
import Derived.Test.YtphenpncdhgdhaaSlOps
namespace Go.Proofs.Ytphenpncdhgdhaa.Sl
open Go.RowKit Go.Proofs.YtphenpncdhgdhaaW.PrintWords Go.Proofs.YtphenpncdhgdhaaW.PrintLast Go.Proofs.YtphenpncdhgdhaaW.PrintMore
open HP
set_option linter.unusedVariables false
set_option linter.unusedSimpArgs false
section
variable {P : Program} {ops : Array Oper} {rest : List Oper} {o : Oper} {a : Act} {Q : Exit → Act → World → Prop} {Kc : Act → World → Prop} {w0 W : World} {S0 : Nat → Prop} {F : List HP} {κ ν : Type}
theorem ev_makemap (hgd : o.guard = none) {N : Tmp} (_hd : o.dst = some N) (d : TypeDesc) (ek : κ → Value) (ev : ν → Value) (hk : ∀ k, MapKept.IsKey d (ek k)) (inj : ∀ a b, ek a = ek b → a = b) (H : St w0 S0 W F)
    (hrun : (execOp a.eval o).run P W = .ok (.value (.map (some W.heap.size))) (W.alloc (.map #[] 0)))
    (h : ∀ g w1, St w0 S0 w1 (map g d ek ev ([] : List (κ × ν)) :: F) → wpList P ops Q rest (a.put o.dst (.map (some g))) w1) : wpList P ops Q (o :: rest) a W :=
  Kd.event_run hgd hrun (h _ _ (H.map_made d ek ev hk inj))
theorem ev_makemap_step (hw : Region.wanted o (yielded ops a.tmps) = true) {N : Option Tmp} (hN : o.dst = N) (d : TypeDesc) (ek : κ → Value) (ev : ν → Value) (hk : ∀ k, MapKept.IsKey d (ek k)) (inj : ∀ a b, ek a = ek b → a = b) (H : St w0 S0 W F)
    (hrun : (execOp a.eval o).run P W = .ok (.value (.map (some W.heap.size))) (W.alloc (.map #[] 0)))
    (h : ∀ g w1, St w0 S0 w1 (map g d ek ev ([] : List (κ × ν)) :: F) → Kc (a.put N (.map (some g))) w1) : if Region.wanted o (yielded ops a.tmps) = true then Oper.wp P o a W Kc Q else Kc (a.put N undef) W :=
  value_ hw hN hrun (h _ _ (H.map_made d ek ev hk inj))
theorem ev_mapset [DecidableEq κ] (hgd : o.guard = none) (hN : o.dst = none) (t : TypeId) (m k x : Operand) (ho : o.op = .mapUpdate t m k x ∨ o.op = .insert t m k x) {g kt et : Nat} {d : TypeDesc} {ek : κ → Value} {ev : ν → Value} {M : List (κ × ν)} (M' : List (κ × ν))
    (H : St w0 S0 W (map g d ek ev M :: F)) (hm : a.eval m = .map (some g)) (key : κ) (hk : a.eval k = ek key) (val : ν) (hv : a.eval x = ev val) (ht : P.underlying t = some (.map kt et)) (hkt : P.underlying kt = some d) (he : mput M key val = M')
    (h : ∀ w1, St w0 S0 w1 (map g d ek ev M' :: F) → wpList P ops Q rest a w1) : wpList P ops Q (o :: rest) a W := by
  obtain ⟨w', hrun, H'⟩ := St.map_store (P := P) H ht hkt key val
  refine wpList_plain hgd fun K hK => ?_
  have hg := hK a w' (h w' (he ▸ H'))
  unfold Oper.wp execOp
  rcases ho with ho | ho <;>
  · simp only [ho, hm, hk, hv, Sem.run_bind, Sem.run_pure, Result.andThen_ok, hrun]
    show K (a.put o.dst undef) _
    rw [hN]
    exact hg
theorem ev_mapset_step [DecidableEq κ] (hw : Region.wanted o (yielded ops a.tmps) = true) (hN : o.dst = none) (t : TypeId) (m k x : Operand) (ho : o.op = .mapUpdate t m k x ∨ o.op = .insert t m k x) {g kt et : Nat} {d : TypeDesc} {ek : κ → Value} {ev : ν → Value} {M : List (κ × ν)} (M' : List (κ × ν))
    (H : St w0 S0 W (map g d ek ev M :: F)) (hm : a.eval m = .map (some g)) (key : κ) (hk : a.eval k = ek key) (val : ν) (hv : a.eval x = ev val) (ht : P.underlying t = some (.map kt et)) (hkt : P.underlying kt = some d) (he : mput M key val = M')
    (h : ∀ w1, St w0 S0 w1 (map g d ek ev M' :: F) → Kc a w1) : if Region.wanted o (yielded ops a.tmps) = true then Oper.wp P o a W Kc Q else Kc (a.put none undef) W := by
  obtain ⟨w', hrun, H'⟩ := St.map_store (P := P) H ht hkt key val
  refine skip_ (w1 := w') hw hN ?_ (h w' (he ▸ H'))
  unfold execOp
  rcases ho with ho | ho <;> simp only [ho, hm, hk, hv, Sem.run_bind, Sem.run_pure, Result.andThen_ok, hrun]
theorem ev_look2 [DecidableEq κ] (hgd : o.guard = none) (t : TypeId) (m k : Operand) (ho : o.op = .lookup t m k true) {g kt et : Nat} {d : TypeDesc} {ek : κ → Value} {ev : ν → Value} {M : List (κ × ν)} (H : St w0 S0 W (map g d ek ev M :: F)) (hm : a.eval m = .map (some g)) (key : κ) (hk : a.eval k = ek key)
    (ht : P.underlying t = some (.map kt et)) (hkt : P.underlying kt = some d) {z : Value} (hz : ∀ w, (zeroValue et).run P w = .ok z w) {v : Value} {b : Bool} (hv : oval ev z (mget M key) = v) (hb : (mget M key).isSome = b)
    (h : wpList P ops Q rest (a.put o.dst (.tuple #[v, .bool b])) W) : wpList P ops Q (o :: rest) a W := by
  refine wpList_plain hgd fun K hK => ?_
  unfold Oper.wp execOp
  simp only [ho, hm, hk, Sem.run_bind, Sem.run_pure, Result.andThen_ok, (St.map_look (P := P) (t := t) (kt := kt) (et := et) H ht hkt key hz).1, hv, hb]
  exact hK _ _ h
theorem ev_look1 [DecidableEq κ] (hgd : o.guard = none) (t : TypeId) (m k : Operand) (ho : o.op = .lookup t m k false) {g kt et : Nat} {d : TypeDesc} {ek : κ → Value} {ev : ν → Value} {M : List (κ × ν)} (H : St w0 S0 W (map g d ek ev M :: F)) (hm : a.eval m = .map (some g)) (key : κ) (hk : a.eval k = ek key)
    (ht : P.underlying t = some (.map kt et)) (hkt : P.underlying kt = some d) {z : Value} (hz : ∀ w, (zeroValue et).run P w = .ok z w) {v : Value} (hv : oval ev z (mget M key) = v)
    (h : wpList P ops Q rest (a.put o.dst v) W) : wpList P ops Q (o :: rest) a W := by
  refine wpList_plain hgd fun K hK => ?_
  unfold Oper.wp execOp
  simp only [ho, hm, hk, Sem.run_bind, Sem.run_pure, Result.andThen_ok, (St.map_look (P := P) (t := t) (kt := kt) (et := et) H ht hkt key hz).2, hv]
  exact hK _ _ h
/-- A literal '[]T{x}', x with what it owns. -/
theorem St.lit_own {α : Type} {d : Kd α} {e : TypeId} {p : α} {cs : List Value} (H : St w0 S0 W (cells d p cs :: F)) (hl : cs.length = d.sz) :
    St w0 S0 (W.alloc (.cells cs.toArray e)) (row d e (.slice (some ⟨W.heap.size, 0, none⟩) 1 1) [p] :: F) := by
  refine H.turn1 (fun S1 a => ⟨fun k => S1 k ∨ W.heap.size ≤ k, ⟨fun k hk => ?_, cs, ?_, ?_⟩, Ext.alloc W _ _, fun k hk => hk⟩)
  · have : W.heap.size = k := by simpa [Value.ownBlock] using hk
    exact .inr (by omega)
  · have h2 := World.ownsRow_lit (base := 0) (e := e) (size := d.sz) W cs.toArray 1 (Nat.zero_le _) (by simp [maxLen]) (by simpa using hl)
    simpa using h2
  · have h3 : (cells d p cs).h (W.alloc (.cells cs.toArray e)) (fun k => S1 k ∧ k < W.heap.size) := (cells d p cs).step ((cells d p cs).bound a) (fun k hk _ => (below_alloc (Below.refl _ _) _).block k hk.2)
    refine (Reps.none _ _).snoc (d.M_mono (fun k hk => ⟨.inl hk.1, fun e => ?_⟩) h3) hl
    have : k = W.heap.size := by simpa [Value.ownBlock] using e
    omega
theorem splice_app : ∀ (seg a b : List Value), b.length = seg.length → splice (a ++ b) a.length seg = a ++ seg
  | [], a, b, h => by
    have : b = [] := List.eq_nil_of_length_eq_zero (by simpa using h)
    rw [this]
    rfl
  | v :: r, a, [], h => by simp at h
  | v :: r, a, x :: b, h => by
    rw [splice, List.set_append_right _ _ (Nat.le_refl _), Nat.sub_self, List.set_cons_zero]
    have e := splice_app r (a ++ [v]) b (by simpa using h)
    simpa using e
theorem fold_set : ∀ (l : List Value) (k : Nat) (cs : Array Value), ((l.zipIdx k).foldl (fun cs (x : Value × Nat) => cs.setIfInBounds (0 + x.2) x.1) cs).toList = splice cs.toList k l
  | [], k, cs => rfl
  | v :: r, k, cs => by
    rw [List.zipIdx_cons, List.foldl_cons, fold_set r (k + 1)]
    simp [splice]
theorem fill_one {u : Value} {n : Nat} {cells : Array Value} (h0 : cells.size = n) (hu : u.cells.size = n) : Instr.fill (fun i => some (i * n, n)) cells [(0, u)] = some u.cells := by
  have hb : (0 * n + u.cells.size > cells.size) = False := by rw [h0, hu]; simp
  simp only [Instr.fill, hu, h0, ne_eq, not_true_eq_false, decide_false, Bool.false_or, Nat.zero_mul, Nat.zero_add, gt_iff_lt, Nat.lt_irrefl]
  simp only [Bool.false_eq_true, if_false]
  congr 1
  apply Array.toList_inj.1
  have h1 := fold_set u.cells.toList 0 cells
  have h2 := splice_app u.cells.toList [] cells.toList (by simp [h0, hu])
  rw [List.nil_append, List.nil_append] at h2
  rw [show ([] : List Value).length = 0 from rfl] at h2
  rw [h2] at h1
  rw [← h1, ← Array.foldl_toList, Array.toList_zipIdx]
  simp
theorem lit1_runs {T e : TypeId} {x : Operand} (ho : o.op = .buildSlice T 1 #[(0, x)]) {u : Value} (hx : a.eval x = u) {seg : List Value} (hu : u.cells.toList = seg) (ht : P.underlying T = some (.slice e)) {z : Value} {n bytes : Nat}
    (hinfo : (P.info? e).map (fun i => (i.zero, i.size, i.bytes)) = some (some z, n, bytes)) (hz : z.cells.size = n) (hl : seg.length = n) (hn0 : 0 < n) (hn : n ≤ 1000) :
    (execOp a.eval o).run P W = .ok (.value (.slice (some ⟨W.heap.size, 0, none⟩) 1 1)) (W.alloc (.cells seg.toArray e)) := by
  have hus : u.cells.size = n := by
    have := congrArg List.length hu
    rw [Array.length_toList] at this
    omega
  have hseg : seg.toArray = u.cells := by rw [← hu]
  cases hq : P.info? e with
  | none => simp [hq] at hinfo
  | some i =>
    simp only [hq, Option.map_some, Option.some.injEq, Prod.mk.injEq] at hinfo
    obtain ⟨hz1, hz2, hz3⟩ := hinfo
    have h1 : ¬ 16777216 < n := by omega
    have h2 : ¬ n = 0 := by omega
    have hf := fill_one (u := u) (n := n) (cells := (Array.range n).map (fun i => z.cells[i % z.cells.size]!)) (by simp) hus
    unfold execOp
    simp only [ho]
    rw [hseg]
    simp [hx, Instr.buildSlice, Sem.run_bind, run_underlying ht, sizeOf, typeInfo, hq, hz2, h1, h2, zeroValue, hz1, Result.andThen, hf, newRow, newObj]
    rfl
theorem ev_lit_own {α : Type} (d : Kd α) (e : TypeId) (hgd : o.guard = none) {N : Tmp} (_hd : o.dst = some N) {p : α} {cs : List Value} (H : St w0 S0 W (cells d p cs :: F))
    (hrun : (execOp a.eval o).run P W = .ok (.value (.slice (some ⟨W.heap.size, 0, none⟩) 1 1)) (W.alloc (.cells cs.toArray e))) (hl : cs.length = d.sz)
    (h : ∀ g w1, St w0 S0 w1 (row d e (.slice (some ⟨g, 0, none⟩) 1 1) [p] :: F) → wpList P ops Q rest (a.put o.dst (.slice (some ⟨g, 0, none⟩) 1 1)) w1) : wpList P ops Q (o :: rest) a W :=
  Kd.event_run hgd hrun (h _ _ (H.lit_own hl))
end
end Go.Proofs.Ytphenpncdhgdhaa.Sl
