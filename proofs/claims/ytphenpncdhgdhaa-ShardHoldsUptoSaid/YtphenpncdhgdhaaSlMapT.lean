/- Maps whose keys are structs: how they lie, and the events made, written, asked. -/
import Derived.Test.YtphenpncdhgdhaaSlEv
import Derived.Laws.StructEq
namespace Go.Proofs.Ytphenpncdhgdhaa.Sl
open Go.RowKit Go.Proofs.YtphenpncdhgdhaaW.PrintWords Go.Proofs.YtphenpncdhgdhaaW.PrintLast Go.Proofs.YtphenpncdhgdhaaW.PrintMore
open HP
set_option linter.unusedVariables false
set_option linter.unusedSimpArgs false
section
variable {κ ν : Type} [DecidableEq κ]
/-- What is asked of a key's kind. -/
structure KK (P : Program) (kt : TypeId) (ek : κ → Value) : Prop where
  check : ∀ (w : World) (e : Bool) (k : κ), (Instr.checkKey e 10000 kt (ek k)).run P w = .ok () w
  eq : ∀ (w : World) (a b : κ), (Op.equal kt (ek a) (ek b)).run P w = .ok (decide (a = b)) w
  und : ∃ d, P.underlying kt = some d ∧ ∀ a b : κ, Instr.sameNow d (ek a) (ek b) = none
  bits : ∀ k : κ, Instr.sameBits 10000 (ek k) (ek k) = true
  inj : ∀ a b : κ, ek a = ek b → a = b
structure Lies (ek : κ → Value) (ev : ν → Value) (m : List (κ × ν)) (es : Array MapEntry) (clock : Nat) : Prop where
  stamped : MapKept.Stamped es clock
  lies : es.toList.map (fun e => (e.key, e.val)) = m.map (fun p => (ek p.1, ev p.2))
variable {P : Program} {kt : TypeId} {ek : κ → Value} {ev : ν → Value} {m : List (κ × ν)} {es : Array MapEntry} {clock : Nat}
omit [DecidableEq κ] in
theorem Lies.nodup (h : Lies ek ev m es clock) : (m.map (·.1)).Nodup := by
  have h1 : es.toList.map (·.key) = (m.map (·.1)).map ek := by
    have := congrArg (List.map Prod.fst) h.lies
    simpa [List.map_map, Function.comp_def] using this
  have h2 := h.stamped.2.2
  rw [h1] at h2
  exact (List.pairwise_map.1 h2).imp (fun hab e => hab (by rw [e]))
omit [DecidableEq κ] in
theorem Lies.at_ (h : Lies ek ev m es clock) (j : Nat) (e : MapEntry) (he : es.toList[j]? = some e) : ∃ p, m[j]? = some p ∧ e.key = ek p.1 ∧ e.val = ev p.2 := by
  have h1 : (es.toList.map (fun e => (e.key, e.val)))[j]? = some (e.key, e.val) := by rw [List.getElem?_map, he]; rfl
  rw [h.lies, List.getElem?_map] at h1
  cases hm : m[j]? with
  | none => rw [hm] at h1; cases h1
  | some p =>
    rw [hm] at h1
    simp only [Option.map_some, Option.some.injEq, Prod.mk.injEq] at h1
    exact ⟨p, rfl, h1.1.symm, h1.2.symm⟩
theorem KK.asking (K : KK P kt ek) (w : World) (k : κ) : ∀ (l : List MapEntry) (i : Nat), (∀ x ∈ l, ∃ a, x.key = ek a) →
    ((Instr.findAsking kt (ek k) l i).run P w = .ok none w ∧ ∀ x ∈ l, x.key ≠ ek k) ∨ ∃ j e, (Instr.findAsking kt (ek k) l i).run P w = .ok (some (i + j, e.val)) w ∧ l[j]? = some e ∧ e.key = ek k
  | [], i, _ => .inl ⟨by simp [Instr.findAsking], by simp⟩
  | e :: es, i, h => by
    obtain ⟨a, ha⟩ := h e (.head _)
    by_cases hk : k = a
    · subst hk
      exact .inr ⟨0, e, by simp [Instr.findAsking, ha, Sem.run_bind, K.eq, Result.andThen], rfl, ha⟩
    · have hne : e.key ≠ ek k := fun q => hk (K.inj _ _ (by rw [← q, ha]))
      rcases KK.asking K w k es (i + 1) (fun x hx => h x (.tail _ hx)) with ⟨h1, h2⟩ | ⟨j, e', h1, h2, h3⟩
      · exact .inl ⟨by simp [Instr.findAsking, ha, Sem.run_bind, K.eq, Result.andThen, hk, h1], fun x hx => by
          cases hx with
          | head => exact hne
          | tail _ hx => exact h2 x hx⟩
      · exact .inr ⟨j + 1, e', by simp [Instr.findAsking, ha, Sem.run_bind, K.eq, Result.andThen, hk, h1]; omega, by simpa using h2, h3⟩
theorem KK.run_find (K : KK P kt ek) (w : World) (k : κ) (l : List MapEntry) (h : ∀ x ∈ l, ∃ a, x.key = ek a) : (Instr.findKey kt (ek k) l).run P w = (Instr.findAsking kt (ek k) l 0).run P w := by
  obtain ⟨d, hd, hn⟩ := K.und
  unfold Instr.findKey
  simp only [Sem.run_bind, run_underlying hd, Result.andThen]
  cases l with
  | nil => simp [Instr.findNow, Instr.findAsking]
  | cons e es =>
    obtain ⟨a, ha⟩ := h e (.head _)
    simp only [Instr.findNow, ha, hn]
theorem KK.find (K : KK P kt ek) (w : World) (h : Lies ek ev m es clock) (k : κ) : ((Instr.findKey kt (ek k) es.toList).run P w = .ok none w ∧ mget m k = none ∧ ∀ p ∈ m, p.1 ≠ k) ∨
    ∃ j v e, (Instr.findKey kt (ek k) es.toList).run P w = .ok (some (j, ev v)) w ∧ m[j]? = some (k, v) ∧ es.toList[j]? = some e ∧ e.key = ek k ∧ mget m k = some v := by
  have hall : ∀ x ∈ es.toList, ∃ a, x.key = ek a := fun x hx => by
    obtain ⟨i, hi⟩ := List.mem_iff_getElem?.1 hx
    obtain ⟨p, _, e, _⟩ := h.at_ i x hi
    exact ⟨p.1, e⟩
  rw [K.run_find w k _ hall]
  rcases K.asking w k es.toList 0 hall with ⟨h1, h2⟩ | ⟨j, e, h1, h2, h3⟩
  · have h4 : ∀ p ∈ m, p.1 ≠ k := by
      rintro p hp rfl
      obtain ⟨j, hj⟩ := List.mem_iff_getElem?.1 hp
      have h5 : (es.toList.map (fun e => (e.key, e.val)))[j]? = some (ek p.1, ev p.2) := by rw [h.lies, List.getElem?_map, hj]; rfl
      rw [List.getElem?_map] at h5
      cases he : es.toList[j]? with
      | none => rw [he] at h5; cases h5
      | some e =>
        rw [he] at h5
        simp only [Option.map_some, Option.some.injEq, Prod.mk.injEq] at h5
        exact h2 e (List.mem_of_getElem? he) h5.1
    exact .inl ⟨h1, mget_none k h4, h4⟩
  · obtain ⟨p, hp, e1, e2⟩ := h.at_ j e h2
    have hk : p.1 = k := K.inj _ _ (by rw [← e1, h3])
    subst hk
    refine .inr ⟨j, p.2, e, ?_, hp, h2, h3, mget_at h.nodup j p hp⟩
    rw [h1, Nat.zero_add, e2]
/-- A map's block: what it holds, in the order in which it came. -/
def mapK (g : Nat) (ek : κ → Value) (ev : ν → Value) (m : List (κ × ν)) : HP :=
  ex fun es : Array MapEntry => ex fun clock : Nat => HP.and (Lies ek ev m es clock) (own g (.map es clock))
variable {w0 w : World} {S0 : Nat → Prop} {F : List HP} {g : Nat} {t et : TypeId}
omit [DecidableEq κ] in
theorem St.mapK_made (h : St w0 S0 w F) (ek : κ → Value) (ev : ν → Value) : St w0 S0 (w.alloc (.map #[] 0)) (mapK w.heap.size ek ev ([] : List (κ × ν)) :: F) :=
  (h.alloc (.map #[] 0)).head (fun _ _ a => ⟨#[], 0, ⟨MapKept.stamped_empty 0, rfl⟩, a⟩)
omit [DecidableEq κ] in
theorem St.mapK_open (h : St w0 S0 w (mapK g ek ev m :: F)) : ∃ es clock, Lies ek ev m es clock ∧ St w0 S0 w (own g (.map es clock) :: F) := by
  obtain ⟨es, h⟩ := St.ex_ h
  obtain ⟨clock, h⟩ := St.ex_ h
  obtain ⟨hl, h⟩ := St.and_ h
  exact ⟨es, clock, hl, h⟩
omit [DecidableEq κ] in
theorem St.mapK_shut (h : St w0 S0 w (own g (.map es clock) :: F)) (hl : Lies ek ev m es clock) : St w0 S0 w (mapK g ek ev m :: F) := St.ex_in es (St.ex_in clock (St.and_in hl h))
omit [DecidableEq κ] in
theorem St.mapK_nodup (h : St w0 S0 w (mapK g ek ev m :: F)) : (m.map (·.1)).Nodup := by
  obtain ⟨es, clock, hl, _⟩ := St.mapK_open h
  exact hl.nodup
theorem St.mapK_look (h : St w0 S0 w (mapK g ek ev m :: F)) (K : KK P kt ek) (ht : P.underlying t = some (.map kt et)) (k : κ) {z : Value} (hz : ∀ w, (zeroValue et).run P w = .ok z w) :
    (Instr.lookup t (.map (some g)) (ek k) true).run P w = .ok (.tuple #[oval ev z (mget m k), .bool (mget m k).isSome]) w ∧
    (Instr.lookup t (.map (some g)) (ek k) false).run P w = .ok (oval ev z (mget m k)) w := by
  obtain ⟨es, clock, hl, h⟩ := St.mapK_open h
  have hb := h.blk
  rcases K.find w hl k with ⟨h1, h2, _⟩ | ⟨j, v, e, h1, _, _, _, h2⟩
  · simp [Instr.lookup, run_underlying ht, MapKept.run_getObj_map hb, K.check, h1, Result.andThen, h2, hz, oval]
  · simp [Instr.lookup, run_underlying ht, MapKept.run_getObj_map hb, K.check, h1, Result.andThen, h2, oval]
theorem St.mapK_store (h : St w0 S0 w (mapK g ek ev m :: F)) (K : KK P kt ek) (ht : P.underlying t = some (.map kt et)) (k : κ) (v : ν) :
    ∃ w', (Instr.mapUpdate t (.map (some g)) (ek k) (ev v)).run P w = .ok () w' ∧ St w0 S0 w' (mapK g ek ev (mput m k v) :: F) := by
  obtain ⟨es, clock, hl, h⟩ := St.mapK_open h
  have hb := h.blk
  rcases K.find w hl k with ⟨h1, h2, h3⟩ | ⟨j, v', e, h1, h2, h3, h4, h5⟩
  · refine ⟨{ w with heap := w.heap.setIfInBounds g (.map (es.push { key := ek k, val := ev v, born := clock }) (clock + 1)) }, by simp [Instr.mapUpdate, run_underlying ht, MapKept.run_getObj_map hb, K.check, h1, MapKept.run_setObj_map _ hb, Result.andThen], ?_⟩
    refine St.mapK_shut h.own_turn ⟨MapKept.stamped_push hl.stamped (fun x hx e => ?_), ?_⟩
    · obtain ⟨i, hi⟩ := List.mem_iff_getElem?.1 hx
      obtain ⟨p, hp, e1, _⟩ := hl.at_ i x hi
      exact h3 p (List.mem_of_getElem? hp) (K.inj _ _ (by rw [← e1, e]))
    · rw [mput_new k v h2]
      simp [hl.lies]
  · have hj : es[j]? = some e := by simpa using h3
    have hst : (Instr.keyThatStays (ek k) (ek k)).run P w = .ok (ek k) w := by simp [Instr.keyThatStays, K.bits k]
    refine ⟨{ w with heap := w.heap.setIfInBounds g (.map (es.modify j fun e => { e with key := ek k, val := ev v }) clock) }, by simp [Instr.mapUpdate, run_underlying ht, MapKept.run_getObj_map hb, K.check, h1, hj, h4, hst, MapKept.run_setObj_map _ hb, Result.andThen], ?_⟩
    refine St.mapK_shut h.own_turn ⟨MapKept.stamped_modify hl.stamped _ _ (fun _ _ => rfl) (fun e' _ he' => by rw [hj] at he'; cases he'; exact h4.symm), ?_⟩
    have hm : mput m k v = m.set j (k, v) := by
      unfold mput
      rw [h5]
      exact map_set hl.nodup j k v v' h2
    rw [hm, List.map_set, ← hl.lies]
    apply List.ext_getElem?
    intro i
    rw [List.getElem?_map, List.getElem?_set, List.getElem?_map, List.length_map]
    simp only [Array.getElem?_toList, Array.getElem?_modify]
    by_cases hij : j = i
    · subst hij
      have hlt : j < es.toList.length := (List.getElem?_eq_some_iff.1 h3).1
      simp [hj]
      simpa using hlt
    · simp [hij]
end
section
variable {P : Program} {ops : Array Oper} {rest : List Oper} {o : Oper} {a : Act} {Q : Exit → Act → World → Prop} {Kc : Act → World → Prop} {w0 W : World} {S0 : Nat → Prop} {F : List HP} {κ ν : Type} [DecidableEq κ]
omit [DecidableEq κ] in
theorem ev_makemapK (hgd : o.guard = none) {N : Tmp} (_hd : o.dst = some N) (ek : κ → Value) (ev : ν → Value) (H : St w0 S0 W F)
    (hrun : (execOp a.eval o).run P W = .ok (.value (.map (some W.heap.size))) (W.alloc (.map #[] 0)))
    (h : ∀ g w1, St w0 S0 w1 (mapK g ek ev ([] : List (κ × ν)) :: F) → wpList P ops Q rest (a.put o.dst (.map (some g))) w1) : wpList P ops Q (o :: rest) a W :=
  Kd.event_run hgd hrun (h _ _ (H.mapK_made ek ev))
omit [DecidableEq κ] in
theorem ev_makemapK_step (hw : Region.wanted o (yielded ops a.tmps) = true) {N : Option Tmp} (hN : o.dst = N) (ek : κ → Value) (ev : ν → Value) (H : St w0 S0 W F)
    (hrun : (execOp a.eval o).run P W = .ok (.value (.map (some W.heap.size))) (W.alloc (.map #[] 0)))
    (h : ∀ g w1, St w0 S0 w1 (mapK g ek ev ([] : List (κ × ν)) :: F) → Kc (a.put N (.map (some g))) w1) : if Region.wanted o (yielded ops a.tmps) = true then Oper.wp P o a W Kc Q else Kc (a.put N undef) W :=
  value_ hw hN hrun (h _ _ (H.mapK_made ek ev))
theorem ev_mapsetK (hgd : o.guard = none) (hN : o.dst = none) (t : TypeId) (m k x : Operand) (ho : o.op = .mapUpdate t m k x ∨ o.op = .insert t m k x) {g kt et : Nat} {ek : κ → Value} {ev : ν → Value} (K : KK P kt ek) {M : List (κ × ν)} (M' : List (κ × ν))
    (H : St w0 S0 W (mapK g ek ev M :: F)) (hm : a.eval m = .map (some g)) (key : κ) (hk : a.eval k = ek key) (val : ν) (hv : a.eval x = ev val) (ht : P.underlying t = some (.map kt et)) (he : mput M key val = M')
    (h : ∀ w1, St w0 S0 w1 (mapK g ek ev M' :: F) → wpList P ops Q rest a w1) : wpList P ops Q (o :: rest) a W := by
  obtain ⟨w', hrun, H'⟩ := St.mapK_store (P := P) H K ht key val
  refine wpList_plain hgd fun Kn hK => ?_
  have hg := hK a w' (h w' (he ▸ H'))
  unfold Oper.wp execOp
  rcases ho with ho | ho <;>
  · simp only [ho, hm, hk, hv, Sem.run_bind, Sem.run_pure, Result.andThen_ok, hrun]
    show Kn (a.put o.dst undef) _
    rw [hN]
    exact hg
theorem ev_mapsetK_step (hw : Region.wanted o (yielded ops a.tmps) = true) (hN : o.dst = none) (t : TypeId) (m k x : Operand) (ho : o.op = .mapUpdate t m k x ∨ o.op = .insert t m k x) {g kt et : Nat} {ek : κ → Value} {ev : ν → Value} (K : KK P kt ek) {M : List (κ × ν)} (M' : List (κ × ν))
    (H : St w0 S0 W (mapK g ek ev M :: F)) (hm : a.eval m = .map (some g)) (key : κ) (hk : a.eval k = ek key) (val : ν) (hv : a.eval x = ev val) (ht : P.underlying t = some (.map kt et)) (he : mput M key val = M')
    (h : ∀ w1, St w0 S0 w1 (mapK g ek ev M' :: F) → Kc a w1) : if Region.wanted o (yielded ops a.tmps) = true then Oper.wp P o a W Kc Q else Kc (a.put none undef) W := by
  obtain ⟨w', hrun, H'⟩ := St.mapK_store (P := P) H K ht key val
  refine skip_ (w1 := w') hw hN ?_ (h w' (he ▸ H'))
  unfold execOp
  rcases ho with ho | ho <;> simp only [ho, hm, hk, hv, Sem.run_bind, Sem.run_pure, Result.andThen_ok, hrun]
theorem ev_look2K (hgd : o.guard = none) (t : TypeId) (m k : Operand) (ho : o.op = .lookup t m k true) {g kt et : Nat} {ek : κ → Value} {ev : ν → Value} (K : KK P kt ek) {M : List (κ × ν)} (H : St w0 S0 W (mapK g ek ev M :: F)) (hm : a.eval m = .map (some g)) (key : κ) (hk : a.eval k = ek key)
    (ht : P.underlying t = some (.map kt et)) {z : Value} (hz : ∀ w, (zeroValue et).run P w = .ok z w) {v : Value} {b : Bool} (hv : oval ev z (mget M key) = v) (hb : (mget M key).isSome = b)
    (h : wpList P ops Q rest (a.put o.dst (.tuple #[v, .bool b])) W) : wpList P ops Q (o :: rest) a W := by
  refine wpList_plain hgd fun Kn hK => ?_
  unfold Oper.wp execOp
  simp only [ho, hm, hk, Sem.run_bind, Sem.run_pure, Result.andThen_ok, (St.mapK_look (P := P) (t := t) (kt := kt) (et := et) H K ht key hz).1, hv, hb]
  exact hK _ _ h
theorem ev_look1K (hgd : o.guard = none) (t : TypeId) (m k : Operand) (ho : o.op = .lookup t m k false) {g kt et : Nat} {ek : κ → Value} {ev : ν → Value} (K : KK P kt ek) {M : List (κ × ν)} (H : St w0 S0 W (mapK g ek ev M :: F)) (hm : a.eval m = .map (some g)) (key : κ) (hk : a.eval k = ek key)
    (ht : P.underlying t = some (.map kt et)) {z : Value} (hz : ∀ w, (zeroValue et).run P w = .ok z w) {v : Value} (hv : oval ev z (mget M key) = v)
    (h : wpList P ops Q rest (a.put o.dst v) W) : wpList P ops Q (o :: rest) a W := by
  refine wpList_plain hgd fun Kn hK => ?_
  unfold Oper.wp execOp
  simp only [ho, hm, hk, Sem.run_bind, Sem.run_pure, Result.andThen_ok, (St.mapK_look (P := P) (t := t) (kt := kt) (et := et) H K ht key hz).2, hv]
  exact hK _ _ h
end
end Go.Proofs.Ytphenpncdhgdhaa.Sl
