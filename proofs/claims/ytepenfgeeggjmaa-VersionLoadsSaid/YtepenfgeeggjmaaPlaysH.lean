/- What a play of a store and of the document's needs: the calls, of stores whatever lies where; stores into rows of flat elements. -/
import Derived.Test.YtepenfgeeggjmaaSameW
namespace Go.Proofs.Ytepenfgeeggjmaa.Ver
open Go.RowKit Go.Proofs.YtepenfgeeggjmaaW.PrintWords Go.Proofs.YtepenfgeeggjmaaW.PrintLast Go.Proofs.YtepenfgeeggjmaaW.PrintMore Go.Proofs.Ytepenfgeeggjmaa.Sl Go.Proofs.Ytepenfgeeggjmaa.Str Go.Proofs.Ytepenfgeeggjmaa.Row
set_option linter.unusedVariables false
set_option linter.unusedSimpArgs false
section
variable {α : Type} {d : Kd α} {enc : α → List Value} {n : Nat} {e : TypeId} {v : Value} {xs : List α}
theorem to_raw (hsz : d.sz = n) (hM : ∀ w b ok x cs, d.M w b ok x cs → (raw n).M w b ok (enc x) cs) : Gives (HP.row d e v xs) (HP.row (raw n) e v (xs.map enc)) := by
  rintro w S ⟨h0, inner, ho, hr⟩
  refine ⟨h0, inner, by rw [List.length_map]; rw [hsz] at ho; exact ho, by rw [List.length_map, show (raw n).sz = d.sz from hsz.symm]; exact hr.1, fun j p hj => ?_⟩
  rw [List.getElem?_map] at hj
  obtain ⟨x, hx, rfl⟩ := Option.map_eq_some_iff.1 hj
  rw [show (raw n).sz = d.sz from hsz.symm]
  exact hM _ _ _ _ _ (hr.2 j x hx)
theorem from_raw (hsz : d.sz = n) (hM : ∀ w b ok x cs, (raw n).M w b ok (enc x) cs → d.M w b ok x cs) : Gives (HP.row (raw n) e v (xs.map enc)) (HP.row d e v xs) := by
  rintro w S ⟨h0, inner, ho, hr⟩
  rw [List.length_map] at ho
  have hr1 := hr.1
  rw [List.length_map] at hr1
  refine ⟨h0, inner, by rw [hsz]; exact ho, by rw [hsz]; exact hr1, fun j p hj => ?_⟩
  have := hr.2 j (enc p) (by rw [List.getElem?_map, hj]; rfl)
  rw [hsz]
  exact hM _ _ _ _ _ this
end
def htC (x : Ht) : List Value := [.string x.key, .int .i64 x.ts, .string x.val]
def vnC (x : Vn) : List Value := [.int .i64 x.ts, .string x.val, .bool x.dead]
theorem ht_raw (v : Value) (xs : List Ht) : Gives (HP.row kHt 39 v xs) (HP.row (raw 3) 39 v (xs.map htC)) := to_raw rfl (fun w b ok x cs h => by
  obtain rfl := kHt_open (kHt.K_of_M h)
  exact ⟨rfl, rfl, fun u hu => by
    simp [htC] at hu
    rcases hu with rfl | rfl | rfl <;> rfl⟩)
theorem vn_raw (v : Value) (xs : List Vn) : Gives (HP.row kVn 29 v xs) (HP.row (raw 3) 29 v (xs.map vnC)) := to_raw rfl (fun w b ok x cs h => by
  obtain rfl := kVn_open (kVn.K_of_M h)
  exact ⟨rfl, rfl, fun u hu => by
    simp [vnC] at hu
    rcases hu with rfl | rfl | rfl <;> rfl⟩)
theorem raw_vn (v : Value) (xs : List Vn) : Gives (HP.row (raw 3) 29 v (xs.map vnC)) (HP.row kVn 29 v xs) := from_raw rfl (fun w b ok x cs h => by
  obtain rfl := h.1
  exact kVn_mkM w b ok x)
theorem vn_set {w0 w : World} {S0 : Nat → Prop} {F : List HP} {g n c : Nat} {vs : List Vn} (h : St w0 S0 w (HP.row kVn 29 (.slice (some ⟨g, 0, none⟩) n c) vs :: F)) (j : Nat) (hj : j < vs.length) (s : ByteArray) :
    (∃ u, w.cell? ⟨g, j * 3 + 1, none⟩ = some u) ∧ w.frozen? ⟨g, j * 3 + 1, none⟩ = false ∧ St w0 S0 (w.setCell ⟨g, j * 3 + 1, none⟩ (.string s)) (HP.row kVn 29 (.slice (some ⟨g, 0, none⟩) n c) (vs.set j ⟨vs[j].ts, s, vs[j].dead⟩) :: F) := by
  have h1 := h.head (vn_raw _ vs)
  have hx : (vs.map vnC)[j]? = some (vnC vs[j]) := by rw [List.getElem?_map, List.getElem?_eq_getElem hj]; rfl
  have hq := St.raw_cell h1 j 1 hx (by omega)
  refine ⟨⟨_, hq.1⟩, hq.2, ?_⟩
  have h2 := St.raw_set h1 j 1 hx (by omega) (.string s) rfl
  have e : (vs.map vnC).set j ((vnC vs[j]).set 1 (.string s)) = (vs.set j ⟨vs[j].ts, s, vs[j].dead⟩).map vnC := by
    rw [List.map_set]
    rfl
  rw [e] at h2
  exact h2.head (raw_vn _ _)
/-- The document's store, whatever lies where. -/
def docH (g : Nat) (log : Log) : HP := HP.ex fun u : Value => logH g u log
theorem refPutS (g : Nat) (log : Log) (hl : log.length ≤ 1000000) (key : ByteArray) (v : Vn) :
    FunV Try.prog 14 #[.pointer (some ⟨g, 0, none⟩), .string key, .agg #[.int .i64 v.ts, .string v.val, .bool v.dead]] (fun _ => True) [docH g log] (.int .i64 (putErrL log key v)) [docH g (putL log key v)] := by
  intro w S hS hR
  obtain ⟨u, HS⟩ := St.ex_ (St.start hS)
  refine ((refPut_fun g u log hl key v).call (F := []) HS (fun _ _ _ _ => trivial)).mono ?_
  rintro e w1 ⟨r, rfl, HS1⟩
  obtain ⟨u', HS1⟩ := St.ex_ HS1
  obtain ⟨hr, HS2⟩ := St.and_ HS1
  subst hr
  exact ⟨rfl, St.ex_in u' HS2⟩
theorem refNewestS (g : Nat) (log : Log) (hl : log.length ≤ 1000000) (key : ByteArray) :
    FunV Try.prog 17 #[.pointer (some ⟨g, 0, none⟩), .string key] (fun _ => True) [docH g log] (.int .i64 (newestL log key)) [docH g log] := by
  intro w S hS hR
  obtain ⟨u, HS⟩ := St.ex_ (St.start hS)
  exact ((refNewest_fun g u log hl key).call (F := []) HS (fun _ _ _ _ => trivial)).mono (fun e w1 ⟨he, HS1⟩ => ⟨he, St.ex_in u HS1⟩)
theorem refSpanS (g : Nat) (log : Log) (hl : log.length ≤ 1000000) (hsz : ∀ p ∈ log, p.1.size ≤ 140737488355328) (a b : ByteArray) (ha : a.size ≤ 140737488355328) (ts : Int) :
    Fun Try.prog 15 #[.pointer (some ⟨g, 0, none⟩), .agg #[.string a, .string b], .int .i64 ts] (fun _ => True) [docH g log] (fun r => [HP.row kHt 39 r (span (rowsL log) a b ts), docH g log]) := by
  intro w S hS hR
  obtain ⟨u, HS⟩ := St.ex_ (St.start hS)
  refine ((refSpan_fun g u log hl hsz a b ha ts).call (F := []) HS (fun _ _ _ _ => trivial)).mono ?_
  rintro e w1 ⟨r, rfl, HS1⟩
  have HS2 : St w S w1 [docH g log, HP.row kHt 39 r (span (rowsL log) a b ts)] := St.ex_in u (HS1.mv 1)
  exact ⟨r, rfl, HS2.mv 1⟩
theorem refRowsS (g : Nat) (log : Log) (hl : log.length ≤ 1000000) (hsz : ∀ p ∈ log, p.1.size ≤ 140737488355328) :
    Fun Try.prog 20 #[.pointer (some ⟨g, 0, none⟩)] (fun _ => True) [docH g log] (fun r => [HP.row kRw 53 r (rowsL log), docH g log]) := by
  intro w S hS hR
  obtain ⟨u, HS⟩ := St.ex_ (St.start hS)
  refine ((refRows_fun g u log hl hsz).call (F := []) HS (fun _ _ _ _ => trivial)).mono ?_
  rintro e w1 ⟨r, rfl, HS1⟩
  have HS2 : St w S w1 [docH g log, HP.row kRw 53 r (rowsL log)] := St.ex_in u (HS1.mv 1)
  exact ⟨r, rfl, HS2.mv 1⟩
theorem newestS (g : Nat) (rows : List Rw) (n : Nat) (hk : Kept rows n) (hn : n ≤ 1001) (key : ByteArray) :
    FunV Try.prog 16 #[.pointer (some ⟨g, 0, none⟩), .string key] (fun _ => True) [someH g rows] (.int .i64 (newest rows key)) [someH g rows] := by
  intro w S hS hR
  obtain ⟨u, HS⟩ := St.ex_ (St.start hS)
  obtain ⟨us, HS⟩ := St.ex_ HS
  obtain ⟨hu, HS⟩ := St.and_ HS
  refine ((newest_fun g u rows us hk.rises hk.full hu (by have := hk.len; omega) key).call (F := []) HS (fun _ _ _ _ => trivial)).mono ?_
  rintro e w1 ⟨he, HS1⟩
  exact ⟨he, St.ex_in u (St.ex_in us (St.and_in hu HS1))⟩
/-- Rows that are told. -/
def toldH (r : Value) (rows : List Rw) : HP := HP.ex fun ns : List Value => HP.and (ns.length = rows.length) (Sl.all [HP.row (raw 2) 53 r (rowsC rows ns), Sl.all (inner rows ns)])
theorem toldH_open {w0 w : World} {S0 : Nat → Prop} {F : List HP} {r : Value} {rows : List Rw} (h : St w0 S0 w (toldH r rows :: F)) : ∃ ns : List Value, ns.length = rows.length ∧ St w0 S0 w (HP.row (raw 2) 53 r (rowsC rows ns) :: Sl.all (inner rows ns) :: F) := by
  obtain ⟨ns, h⟩ := St.ex_ h
  obtain ⟨hn, h⟩ := St.and_ h
  exact ⟨ns, hn, h.all_⟩
theorem rowsS (g : Nat) (rows : List Rw) (n : Nat) (hk : Kept rows n) (hn : n ≤ 1001) :
    Fun Try.prog 18 #[.pointer (some ⟨g, 0, none⟩)] (fun _ => True) [someH g rows] (fun r => [toldH r rows, someH g rows]) := by
  intro w S hS hR
  obtain ⟨u, HS⟩ := St.ex_ (St.start hS)
  obtain ⟨us, HS⟩ := St.ex_ HS
  obtain ⟨hu, HS⟩ := St.and_ HS
  refine ((rows_fun g u rows us hu (by have := hk.len; omega) (fun r hr => by have := (hk.each r hr).1; omega)).call (F := []) HS (fun _ _ _ _ => trivial)).mono ?_
  rintro e w1 ⟨r, rfl, HS1⟩
  have HS2 : St w S w1 [someH g rows, toldH r rows] := St.ex_in u (St.ex_in us (St.and_in hu (HS1.mv 1)))
  exact ⟨r, rfl, HS2.mv 1⟩
/-- The program's rows against the document's. -/
theorem sameS (r r2 : Value) (rows : List Rw) (n : Nat) (hk : Kept rows n) (hn : n ≤ 1001) :
    FunV Try.prog 19 #[r, r2] (fun _ => True) [toldH r rows, HP.row kRw 53 r2 rows] (.bool true) [toldH r rows, HP.row kRw 53 r2 rows] := by
  intro w S hS hR
  have HS := St.start hS
  obtain ⟨ns, hns, H1⟩ := toldH_open HS
  obtain ⟨A0, c0, rfl, hc0, hC0⟩ := rows_C H1 hns
  obtain ⟨A1, c1, rfl, hc1, hC1⟩ := St.row_C (HS.mv 1)
  exact (sameRows_calls rows (by have := hk.len; omega) (fun r hr => by have := (hk.each r hr).1; omega) hC0 hc0 hC1 hc1).mono (fun e w' ⟨he, hd⟩ => ⟨he, HS.drawn hd⟩)
/-- What both sides keep after n puts. -/
structure Both (log : Log) (n : Nat) : Prop where
  good : Good log
  kept : Kept (rowsL log) n
  len : log.length ≤ n
  sized : ∀ p ∈ log, p.1.size ≤ 140737488355328
theorem both_nil : Both [] 0 := ⟨good_nil, kept_nil, Nat.le_refl _, fun p h => by simp at h⟩
theorem both_mono {log : Log} {n m : Nat} (h : Both log n) (hm : n ≤ m) : Both log m := ⟨h.good, kept_mono h.kept hm, Nat.le_trans h.len hm, h.sized⟩
theorem both_put {log : Log} {n : Nat} (h : Both log n) (k : ByteArray) (hk : k.size ≤ 140737488351232) (v : Vn) : Both (putL log k v) (n + 1) ∧ put (rowsL log) k v = rowsL (putL log k v) := by
  have hp := put_eq log h.good k v
  refine ⟨⟨hp.2, ?_, ?_, ?_⟩, hp.1⟩
  · rw [← hp.1]; exact kept_put h.kept k hk v
  · unfold putL
    split
    · rw [List.length_append, List.length_singleton]; have := h.len; omega
    · exact Nat.le_succ_of_le h.len
  · unfold putL
    split
    · intro p hp
      rcases List.mem_append.1 hp with hp | hp
      · exact h.sized p hp
      · rw [List.mem_singleton.1 hp]; show k.size ≤ _; omega
    · exact h.sized
end Go.Proofs.Ytepenfgeeggjmaa.Ver
