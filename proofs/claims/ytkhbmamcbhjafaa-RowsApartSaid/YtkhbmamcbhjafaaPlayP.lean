/- Rows played by writers of two states, and the entries that they leave: plain. -/
import Derived.Test.YtkhbmamcbhjafaaChgP
import Derived.Test.YtkhbmamcbhjafaaSlAll
namespace Go.Proofs.Ytkhbmamcbhjafaa.Keys
open Go.RowKit Go.Proofs.YtkhbmamcbhjafaaW.PrintWords Go.Proofs.YtkhbmamcbhjafaaW.PrintLast Go.Proofs.YtkhbmamcbhjafaaW.PrintMore Go.Proofs.Ytkhbmamcbhjafaa.Str Go.Proofs.Ytkhbmamcbhjafaa.PRef Go.Proofs.Ytkhbmamcbhjafaa.Stands Go.Proofs.Ytkhbmamcbhjafaa.Sl
set_option linter.unusedVariables false
set_option linter.unusedSimpArgs false
instance decBytes : DecidableEq ByteArray := fun a b => if h : a.data = b.data then .isTrue (by cases a; cases b; simp_all) else .isFalse (fun e => h (by rw [e]))
abbrev Ents := List (ByteArray × Bool)
structure OpR where
  f0 : Int
  f1 : Int
  f2 : Bool
  f3 : Bool
structure Sta where
  r0 : List C
  r1 : List C
  r2 : List C
  r3 : List C
  m : Ents
def Sta.row (s : Sta) : Nat → List C
  | 0 => s.r0
  | 1 => s.r1
  | 2 => s.r2
  | _ => s.r3
def Sta.put (s : Sta) (k : Nat) (x : List C) (m : Ents) : Sta := match k with
  | 0 => ⟨x, s.r1, s.r2, s.r3, m⟩
  | 1 => ⟨s.r0, x, s.r2, s.r3, m⟩
  | 2 => ⟨s.r0, s.r1, x, s.r3, m⟩
  | _ => ⟨s.r0, s.r1, s.r2, x, m⟩
def sta0 : Sta := ⟨[], [], [], [], []⟩
def spF : ByteArray := keyOf [numV 1, numV 4]
def spT : ByteArray := spF ++ ⟨#[255]⟩
def inSpan (k : ByteArray) : Bool := decide (cmpS spF k ≤ 0) && decide (cmpS k spT < 0)
def apply1 (m : Ents) (x : Wr) : Ents := if inSpan x.key = true then (if x.dead = true then mdel m x.key else mput m x.key true) else m
def cellsC (k v : Int) : List C := [⟨2, numV k⟩, ⟨3, numV v⟩]
def ixOf (st : Int) : List Ix := if st = 0 then [] else [⟨4, ⟨#[105]⟩, 3, false, st⟩]
def colsC : List Cl := [⟨2, ⟨#[97]⟩, 1, 3, ⟨0, 0, ⟨#[]⟩⟩⟩, ⟨3, ⟨#[98]⟩, 1, 3, ⟨0, 0, ⟨#[]⟩⟩⟩]
def doS (st : Int) (s : Sta) (k : Nat) (x : List C) : Sta := s.put k x ((changes 1 2 (ixOf st) (s.row k) x).foldl apply1 s.m)
def opK (o : OpR) : Nat := (IntKind.u64.wrap o.f0 % 4).toNat
def opX (o : OpR) : List C := if o.f2 = true then [] else cellsC (opK o) (IntKind.u64.wrap o.f1 % 3)
def doO (st : Int) (s : Sta) (o : OpR) : Sta := doS st s (opK o) (opX o)
/-- Rows as they may be. -/
def RowG (k : Nat) (l : List C) : Prop := l = [] ∨ ∃ v : Int, 0 ≤ v ∧ v < 3 ∧ l = cellsC k v
def SG (s : Sta) : Prop := ∀ k, k < 4 → RowG k (s.row k)
theorem row_put (s : Sta) (k j : Nat) (x : List C) (m : Ents) (hk : k < 4) (hj : j < 4) : (s.put k x m).row j = if j = k then x else s.row j := by
  rcases (show k = 0 ∨ k = 1 ∨ k = 2 ∨ k = 3 by omega) with rfl | rfl | rfl | rfl <;> rcases (show j = 0 ∨ j = 1 ∨ j = 2 ∨ j = 3 by omega) with rfl | rfl | rfl | rfl <;> rfl
theorem put_m (s : Sta) (k : Nat) (x : List C) (m : Ents) (hk : k < 4) : (s.put k x m).m = m := by
  rcases (show k = 0 ∨ k = 1 ∨ k = 2 ∨ k = 3 by omega) with rfl | rfl | rfl | rfl <;> rfl
theorem opK_lt (o : OpR) : opK o < 4 := by
  unfold opK
  rw [IntKind.wrap_u64]
  omega
theorem opX_good (o : OpR) : RowG (opK o) (opX o) := by
  unfold opX
  split
  · exact .inl rfl
  · refine .inr ⟨_, ?_, ?_, rfl⟩
    · rw [IntKind.wrap_u64]; omega
    · rw [IntKind.wrap_u64]; omega
theorem sg0 : SG sta0 := by
  intro k hk
  rcases (show k = 0 ∨ k = 1 ∨ k = 2 ∨ k = 3 by omega) with rfl | rfl | rfl | rfl <;> exact .inl rfl
theorem sg_do (st : Int) (s : Sta) (h : SG s) (k : Nat) (hk : k < 4) (x : List C) (hx : RowG k x) : SG (doS st s k x) := by
  intro j hj
  unfold doS
  rw [row_put _ _ _ _ _ hk hj]
  by_cases e : j = k
  · subst e; rw [if_pos rfl]; exact hx
  · rw [if_neg e]; exact h j hj
theorem rowG_len {k : Nat} {l : List C} (h : RowG k l) : l.length ≤ 2 := by
  rcases h with rfl | ⟨v, _, _, rfl⟩
  · simp
  · simp [cellsC]
theorem rowG_64 {k : Nat} (hk : k < 4) {l : List C} (h : RowG k l) : C64 l := by
  rcases h with rfl | ⟨v, h0, h1, rfl⟩
  · intro c hc; simp at hc
  · intro c hc
    simp only [cellsC, List.mem_cons, List.not_mem_nil, or_false] at hc
    rcases hc with rfl | rfl
    · exact ⟨in64_small (n := 2) (by omega) (by omega), in64_small (n := (k : Int)) (by omega) (by omega)⟩
    · exact ⟨in64_small (n := 3) (by omega) (by omega), in64_small (n := v) (by omega) (by omega)⟩
/-! ### keys -/
def E (k : Nat) (v : Int) : ByteArray := entryK 4 (numV v) (numV k)
theorem numV_good {n : Int} (h0 : -1000000 ≤ n) (h1 : n ≤ 1000000) : rightV (numV n) = true ∧ In64 (numV n).f1 := ⟨numV_right n, in64_small h0 h1⟩
theorem good_nums {l : List Int} (h : ∀ n ∈ l, -1000000 ≤ n ∧ n ≤ 1000000) : Good (l.map numV) := by
  intro v hv
  obtain ⟨n, hn, rfl⟩ := List.mem_map.1 hv
  exact numV_good (h n hn).1 (h n hn).2
theorem keyOf_good {l : List V} (h : Good l) (hl : l.length ≤ 8) : keyOf l = ⟨(encL l).toArray⟩ := by
  unfold keyOf encode
  rw [if_neg (by omega), if_pos (by rw [List.all_eq_true]; exact fun v hv => (h v hv).1)]
theorem good4 {k : Nat} {v : Int} (hk : k < 4) (h0 : 0 ≤ v) (h1 : v < 3) : Good [numV 1, numV 4, numV v, numV k] := good_nums (l := [1, 4, v, k]) (by
  intro n hn
  simp only [List.mem_cons, List.not_mem_nil, or_false] at hn
  rcases hn with rfl | rfl | rfl | rfl <;> omega)
theorem good2 : Good [numV 1, numV 4] := good_nums (l := [1, 4]) (by
  intro n hn
  simp only [List.mem_cons, List.not_mem_nil, or_false] at hn
  rcases hn with rfl | rfl <;> omega)
theorem good3 {k : Nat} (hk : k < 4) : Good [numV 0, numV 1, numV k] := good_nums (l := [0, 1, k]) (by
  intro n hn
  simp only [List.mem_cons, List.not_mem_nil, or_false] at hn
  rcases hn with rfl | rfl | rfl <;> omega)
theorem numV_inj {a b : Int} (h : numV a = numV b) : a = b := by
  have := congrArg (fun v : V => v.f1) h
  exact this
theorem toL (l : List UInt8) : (⟨l.toArray⟩ : ByteArray).toList = l := mk_toList l
theorem E_inj {k k' : Nat} {v v' : Int} (hk : k < 4) (hk' : k' < 4) (h0 : 0 ≤ v) (h1 : v < 3) (h0' : 0 ≤ v') (h1' : v' < 3) (h : E k v = E k' v') : k = k' ∧ v = v' := by
  unfold E entryK at h
  rw [keyOf_good (good4 hk h0 h1) (by simp), keyOf_good (good4 hk' h0' h1') (by simp)] at h
  have h2 := congrArg ByteArray.toList h
  rw [toL, toL] at h2
  have h3 := encL_inj _ _ (good4 hk h0 h1) (good4 hk' h0' h1') h2
  simp only [List.cons.injEq, and_true] at h3
  have e1 := numV_inj h3.2.2.1
  have e2 := numV_inj h3.2.2.2
  omega
theorem spT_list : spT.toList = encL [numV 1, numV 4] ++ [255] := by
  unfold spT spF
  rw [keyOf_good good2 (by simp)]
  simp only [toList_eq, ByteArray.data_append, Array.toList_append]
theorem spF_list : spF.toList = encL [numV 1, numV 4] := by
  unfold spF
  rw [keyOf_good good2 (by simp), toL]
theorem span_iff {l : List V} (h : Good l) (hl : l.length ≤ 8) : inSpan (keyOf l) = true ↔ ∃ c, l = [numV 1, numV 4] ++ c := by
  unfold inSpan cmpS
  rw [keyOf_good h hl, spF_list, spT_list, toL, Bool.and_eq_true, decide_eq_true_eq, decide_eq_true_eq]
  exact encL_under _ _ good2 h
theorem span_E {k : Nat} {v : Int} (hk : k < 4) (h0 : 0 ≤ v) (h1 : v < 3) : inSpan (E k v) = true := (span_iff (good4 hk h0 h1) (by simp)).2 ⟨[numV v, numV k], rfl⟩
theorem span_row {k : Nat} (hk : k < 4) : inSpan (rowK 1 (numV k)) = false := by
  rw [Bool.eq_false_iff]
  intro h
  obtain ⟨c, hc⟩ := (span_iff (good3 hk) (by simp)).1 h
  simp only [List.cons_append, List.cons.injEq] at hc
  have := numV_inj hc.1
  omega
/-! ### what a change does to the entries -/
theorem put_cells_ok {k : Nat} (hk : k < 4) {l : List C} (h : RowG k l) : (put l).2 = 0 := by
  unfold put
  rcases h with rfl | ⟨v, h0, h1, rfl⟩
  · rfl
  · rw [if_pos]
    simp only [okC, cellsC, Bool.and_eq_true, decide_eq_true_eq]
    exact ⟨⟨by omega, numV_right _⟩, ⟨by omega, numV_right _⟩, trivial⟩
theorem of_cells2 (k v : Int) : ofC (cellsC k v) 2 = numV k := rfl
theorem of_cells3 (k v : Int) : ofC (cellsC k v) 3 = numV v := rfl
/-- The entries behind a change of row k from old to x. -/
def entD (k : Nat) (old x : List C) (m : Ents) : Ents := match old with
  | [] => m
  | _ => if x = [] ∨ ofC old 3 ≠ ofC x 3 then mdel m (entryK 4 (ofC old 3) (numV k)) else m
def entP (st : Int) (k : Nat) (x : List C) (m : Ents) : Ents := match x with
  | [] => m
  | _ => if st = 2 ∨ st = 3 then mput m (entryK 4 (ofC x 3) (numV k)) true else m
def entS (st : Int) (k : Nat) (old x : List C) (m : Ents) : Ents := if st = 0 then m else entP st k x (entD k old x m)
theorem apply_row (m : Ents) {k : Nat} (hk : k < 4) (v : ByteArray) (d : Bool) : apply1 m ⟨rowK 1 (numV k), v, d⟩ = m := by
  unfold apply1
  rw [if_neg (by rw [span_row hk]; decide)]
theorem apply_E (m : Ents) {k : Nat} {v : Int} (hk : k < 4) (h0 : 0 ≤ v) (h1 : v < 3) (d : Bool) (b : ByteArray) : apply1 m ⟨entryK 4 (numV v) (numV k), b, d⟩ = if d = true then mdel m (E k v) else mput m (E k v) true := by
  have h := span_E hk h0 h1
  unfold E at h ⊢
  unfold apply1
  simp only [h, if_true]
theorem ch_is (old new : List C) (k : V) (x : Ix) (a1 a2 : Prop) [Decidable a1] [Decidable a2] (h1 : (0 < old.length ∧ (new.length = 0 ∨ ofC old x.f2 ≠ ofC new x.f2)) ↔ a1) (h2 : (0 < new.length ∧ (x.f4 = 2 ∨ x.f4 = 3)) ↔ a2) :
    chStep old new k x = (if a1 then [⟨entryK x.f0 (ofC old x.f2) k, ⟨#[]⟩, true⟩] else []) ++ (if a2 then [⟨entryK x.f0 (ofC new x.f2) k, ⟨#[]⟩, false⟩] else []) := by
  unfold chStep
  simp only [h1, h2]
theorem fold_changes (st : Int) (k : Nat) (hk : k < 4) (old x : List C) (ho : RowG k old) (hx : RowG k x) (m : Ents) : (changes 1 2 (ixOf st) old x).foldl apply1 m = entS st k old x m := by
  have hp := put_cells_ok hk hx
  rcases ho with rfl | ⟨v, v0, v1, rfl⟩
  · rcases hx with rfl | ⟨w, w0, w1, rfl⟩
    · simp [changes, entS, entD, entP]
    · unfold changes entS entD entP
      rw [if_neg (by simp [cellsC]), if_neg (by omega)]
      by_cases hs : st = 0
      · simp [ixOf, hs, chKey, of_cells2, apply_row m hk]
      · simp only [ixOf, if_neg hs, List.map_cons, List.map_nil, List.flatten_cons, List.flatten_nil, List.append_nil, List.foldl_cons, chKey]
        rw [show ofC (cellsC k w) 2 = numV k from rfl]
        simp only [List.length_nil, Nat.lt_irrefl, if_false]
        rw [apply_row m hk]
        simp only [chStep, List.length_nil, Nat.lt_irrefl, false_and, if_false, List.nil_append, of_cells3]
        by_cases h2 : st = 2 ∨ st = 3
        · rw [if_pos ⟨by simp [cellsC], h2⟩]
          simp only [List.foldl_cons, List.foldl_nil, apply_E m hk w0 w1, Bool.false_eq_true, if_false]
          simp only [cellsC, if_pos h2]
          rfl
        · rw [if_neg (fun h => h2 h.2)]
          simp only [List.foldl_nil, cellsC, if_neg h2]
  · unfold changes entS entD entP
    rw [if_neg (by simp [cellsC]), if_neg (by omega)]
    by_cases hs : st = 0
    · simp [ixOf, hs, chKey, cellsC, ofC, numV, apply_row]
      exact apply_row m hk _ _
    · simp only [ixOf, if_neg hs, List.map_cons, List.map_nil, List.flatten_cons, List.flatten_nil, List.append_nil, List.foldl_cons, chKey]
      rw [if_pos (by simp [cellsC]), show ofC (cellsC k v) 2 = numV k from rfl, apply_row m hk]
      rcases hx with rfl | ⟨w, w0, w1, rfl⟩
      · rw [ch_is (cellsC k v) [] (numV k) ⟨4, ⟨#[105]⟩, 3, false, st⟩ True False (by simp [cellsC]) (by simp)]
        simp only [if_true, if_false, List.append_nil, List.foldl_cons, List.foldl_nil]
        rw [show ofC (cellsC k v) 3 = numV v from rfl, apply_E m hk v0 v1, if_pos rfl]
        show mdel m (E k v) = if True ∨ _ then _ else _
        rw [if_pos (.inl trivial)]
        rfl
      · rw [ch_is (cellsC k v) (cellsC k w) (numV k) ⟨4, ⟨#[105]⟩, 3, false, st⟩ (numV v ≠ numV w) (st = 2 ∨ st = 3) (by simp [cellsC, ofC]) (by simp [cellsC])]
        show List.foldl apply1 m ((if numV v ≠ numV w then [(⟨entryK 4 (numV v) (numV k), ⟨#[]⟩, true⟩ : Wr)] else []) ++ if st = 2 ∨ st = 3 then [⟨entryK 4 (numV w) (numV k), ⟨#[]⟩, false⟩] else []) =
          if st = 2 ∨ st = 3 then mput (if cellsC k w = [] ∨ numV v ≠ numV w then mdel m (E k v) else m) (E k w) true else (if cellsC k w = [] ∨ numV v ≠ numV w then mdel m (E k v) else m)
        have hxn : ¬ cellsC (k : Int) w = [] := by simp [cellsC]
        by_cases hvw : numV v = numV w
        · have c1 : ¬ (numV v ≠ numV w) := not_not_intro hvw
          have c2 : ¬ (cellsC (k : Int) w = [] ∨ numV v ≠ numV w) := fun h => h.elim hxn (fun h => h hvw)
          by_cases h2 : st = 2 ∨ st = 3
          · simp only [if_neg c1, if_neg c2, if_pos h2, List.nil_append, List.foldl_cons, List.foldl_nil]
            rw [apply_E m hk w0 w1, if_neg (by decide)]
          · simp only [if_neg c1, if_neg c2, if_neg h2, List.nil_append, List.foldl_nil]
        · have c2 : cellsC (k : Int) w = [] ∨ numV v ≠ numV w := .inr hvw
          by_cases h2 : st = 2 ∨ st = 3
          · simp only [if_pos (show numV v ≠ numV w from hvw), if_pos c2, if_pos h2, List.cons_append, List.nil_append, List.foldl_cons, List.foldl_nil]
            rw [apply_E _ hk v0 v1, if_pos rfl, apply_E _ hk w0 w1, if_neg (by decide)]
          · simp only [if_pos (show numV v ≠ numV w from hvw), if_pos c2, if_neg h2, List.append_nil, List.foldl_cons, List.foldl_nil]
            rw [apply_E _ hk v0 v1, if_pos rfl]
/-! ### maps of true -/
structure MT (m : Ents) : Prop where
  nodup : (m.map (·.1)).Nodup
  tru : ∀ p ∈ m, p.2 = true
def has (m : Ents) (k : ByteArray) : Prop := (k, true) ∈ m
theorem mt_nil : MT [] := ⟨by simp, by simp⟩
theorem mget_has (m : Ents) (h : MT m) (k : ByteArray) : (mget m k = some true ∧ has m k) ∨ (mget m k = none ∧ ¬ has m k) := by
  by_cases hk : has m k
  · obtain ⟨j, hj⟩ := List.mem_iff_getElem?.1 hk
    exact .inl ⟨mget_at h.nodup j _ hj, hk⟩
  · refine .inr ⟨mget_none k (fun p hp e => hk ?_), hk⟩
    have := h.tru p hp
    unfold has
    rw [← e, ← this]
    exact hp
theorem mem_has (m : Ents) (h : MT m) (p : ByteArray × Bool) (hp : p ∈ m) : has m p.1 := by
  unfold has
  rw [← h.tru p hp]
  exact hp
theorem mput_mt (m : Ents) (h : MT m) (k : ByteArray) : MT (mput m k true) ∧ ∀ x, has (mput m k true) x ↔ x = k ∨ has m x := by
  rcases mget_has m h k with ⟨h1, h2⟩ | ⟨h1, h2⟩
  · have e : mput m k true = m := by
      unfold mput
      rw [h1]
      simp only [Option.isSome_some, if_true]
      conv => rhs; rw [← List.map_id m]
      refine List.map_congr_left (fun p hp => ?_)
      by_cases hp1 : p.1 = k
      · rw [if_pos hp1, ← hp1, ← h.tru p hp]; rfl
      · rw [if_neg hp1]; rfl
    rw [e]
    exact ⟨h, fun x => ⟨.inr, fun hx => hx.elim (fun e => e ▸ h2) id⟩⟩
  · rw [mput_new k true h1]
    refine ⟨⟨?_, ?_⟩, ?_⟩
    · rw [List.map_append, List.nodup_append]
      refine ⟨h.nodup, by simp, ?_⟩
      intro a ha b hb e
      simp only [List.map_cons, List.map_nil, List.mem_singleton] at hb
      obtain ⟨p, hp, rfl⟩ := List.mem_map.1 ha
      exact h2 (by have := mem_has m h p hp; rw [e, hb] at this; exact this)
    · intro p hp
      rcases List.mem_append.1 hp with hp | hp
      · exact h.tru p hp
      · rw [List.mem_singleton.1 hp]
    · intro x
      unfold has
      rw [List.mem_append, List.mem_singleton]
      simp only [Prod.mk.injEq, and_true]
      exact ⟨fun h => h.elim .inr .inl, fun h => h.elim .inr .inl⟩
theorem mdel_mt (m : Ents) (h : MT m) (k : ByteArray) : MT (mdel m k) ∧ ∀ x, has (mdel m k) x ↔ x ≠ k ∧ has m x := by
  refine ⟨⟨(h.nodup.sublist (List.filter_sublist.map _)), fun p hp => h.tru p (List.mem_filter.1 hp).1⟩, ?_⟩
  intro x
  unfold has mdel
  rw [List.mem_filter]
  simp only [Bool.not_eq_true', decide_eq_false_iff_not]
  exact ⟨fun h => ⟨h.2, h.1⟩, fun h => ⟨h.2, h.1⟩⟩
def inside (a b : Ents) : Bool := a.all (fun p => (mget b p.1).getD false)
theorem inside_of (a b : Ents) (ha : MT a) (hb : MT b) (h : ∀ x, has a x → has b x) : inside a b = true := by
  unfold inside
  rw [List.all_eq_true]
  intro p hp
  rcases mget_has b hb p.1 with ⟨h1, _⟩ | ⟨_, h2⟩
  · rw [h1]; rfl
  · exact absurd (h _ (mem_has a ha p hp)) h2
/-! ### the invariants -/
structure Sub (s : Sta) : Prop where
  good : SG s
  mt : MT s.m
  sub : ∀ x, has s.m x → ∃ k v, k < 4 ∧ 0 ≤ v ∧ v < 3 ∧ x = E k v ∧ s.row k = cellsC k v
def All (s : Sta) : Prop := ∀ k v, k < 4 → s.row k = cellsC k v → has s.m (E k v)
theorem sub0 : Sub sta0 := ⟨sg0, mt_nil, fun x hx => by unfold has sta0 at hx; simp at hx⟩
theorem all0 : All sta0 := by
  intro k v hk h
  rcases (show k = 0 ∨ k = 1 ∨ k = 2 ∨ k = 3 by omega) with rfl | rfl | rfl | rfl <;> simp [sta0, Sta.row, cellsC] at h
theorem cells_inj {k : Nat} {v w : Int} (h : cellsC k v = cellsC k w) : v = w := by
  simp only [cellsC, List.cons.injEq, and_true, true_and] at h
  have := congrArg (fun c : C => c.f1) h
  exact numV_inj this
theorem doS_m (st : Int) (s : Sta) (hs : SG s) (k : Nat) (hk : k < 4) (x : List C) (hx : RowG k x) : (doS st s k x).m = entS st k (s.row k) x s.m := by
  unfold doS
  rw [put_m _ _ _ _ hk, fold_changes st k hk _ _ (hs k hk) hx]
theorem doS_row (st : Int) (s : Sta) (k j : Nat) (hk : k < 4) (hj : j < 4) (x : List C) : (doS st s k x).row j = if j = k then x else s.row j := row_put _ _ _ _ _ hk hj
/-- The entries behind a change, by what they hold. -/
theorem entS_has (st : Int) (k : Nat) (hk : k < 4) (old x : List C) (ho : RowG k old) (hx : RowG k x) (m : Ents) (hm : MT m) : MT (entS st k old x m) ∧
    ∀ y, has (entS st k old x m) y ↔ ((st ≠ 0 ∧ (st = 2 ∨ st = 3) ∧ ∃ w, 0 ≤ w ∧ w < 3 ∧ x = cellsC k w ∧ y = E k w) ∨ (has m y ∧ ¬ (st ≠ 0 ∧ ∃ v, 0 ≤ v ∧ v < 3 ∧ old = cellsC k v ∧ y = E k v ∧ x ≠ cellsC k v))) := by
  unfold entS
  by_cases hs : st = 0
  · rw [if_pos hs]
    exact ⟨hm, fun y => ⟨fun h => .inr ⟨h, fun q => q.1 hs⟩, fun h => h.elim (fun q => absurd hs q.1) (fun q => q.1)⟩⟩
  · rw [if_neg hs]
    -- the first part
    have hold : ∀ v : Int, old = cellsC k v → old ≠ [] := fun v e => by rw [e]; simp [cellsC]
    have h1 : MT (entD k old x m) ∧ ∀ y, has (entD k old x m) y ↔ (has m y ∧ ¬ (∃ v, 0 ≤ v ∧ v < 3 ∧ old = cellsC k v ∧ y = E k v ∧ x ≠ cellsC k v)) := by
      unfold entD
      rcases ho with rfl | ⟨v, v0, v1, rfl⟩
      · exact ⟨hm, fun y => ⟨fun h => ⟨h, fun ⟨v, _, _, e, _⟩ => by simp [cellsC] at e⟩, fun h => h.1⟩⟩
      · simp only [cellsC]
        by_cases hc : x = [] ∨ ofC [(⟨2, numV k⟩ : C), ⟨3, numV v⟩] 3 ≠ ofC x 3
        · simp only [hc, if_true]
          have hxv : x ≠ cellsC k v := by
            rintro rfl
            rcases hc with h | h
            · simp [cellsC] at h
            · exact h rfl
          obtain ⟨a, b⟩ := mdel_mt m hm (entryK 4 (ofC [(⟨2, numV k⟩ : C), ⟨3, numV v⟩] 3) (numV k))
          refine ⟨a, fun y => ?_⟩
          rw [b]
          constructor
          · rintro ⟨h1, h2⟩
            refine ⟨h2, ?_⟩
            rintro ⟨v', _, _, e, e2, _⟩
            have := cells_inj (k := k) (v := v) (w := v') e
            subst this
            exact h1 e2
          · rintro ⟨h1, h2⟩
            exact ⟨fun e => h2 ⟨v, v0, v1, rfl, e, hxv⟩, h1⟩
        · simp only [hc, if_false]
          refine ⟨hm, fun y => ⟨fun h => ⟨h, ?_⟩, fun h => h.1⟩⟩
          rintro ⟨v', _, _, e, _, e2⟩
          have := cells_inj (k := k) (v := v) (w := v') e
          subst this
          simp only [not_or, Decidable.not_not] at hc
          rcases hx with rfl | ⟨w, w0, w1, rfl⟩
          · exact hc.1 rfl
          · have : v = w := numV_inj hc.2
            subst this
            exact e2 rfl
    generalize entD k old x m = m1 at h1 ⊢
    obtain ⟨hm1, h1⟩ := h1
    have hrw : ∀ y, (has m y ∧ ¬ (st ≠ 0 ∧ ∃ v, 0 ≤ v ∧ v < 3 ∧ old = cellsC k v ∧ y = E k v ∧ x ≠ cellsC k v)) ↔ has m1 y := fun y => by
      rw [h1]
      exact ⟨fun ⟨a, b⟩ => ⟨a, fun c => b ⟨hs, c⟩⟩, fun ⟨a, b⟩ => ⟨a, fun c => b c.2⟩⟩
    unfold entP
    rcases hx with rfl | ⟨w, w0, w1, rfl⟩
    · refine ⟨hm1, fun y => ?_⟩
      rw [hrw]
      exact ⟨.inr, fun h => h.elim (fun ⟨_, _, w, _, _, e, _⟩ => by simp [cellsC] at e) id⟩
    · simp only [cellsC]
      by_cases h2 : st = 2 ∨ st = 3
      · rw [if_pos h2]
        obtain ⟨a, b⟩ := mput_mt m1 hm1 (entryK 4 (ofC [(⟨2, numV k⟩ : C), ⟨3, numV w⟩] 3) (numV k))
        refine ⟨a, fun y => ?_⟩
        rw [b]
        constructor
        · rintro (h | h)
          · exact .inl ⟨hs, h2, w, w0, w1, rfl, h⟩
          · exact .inr ((hrw y).2 h)
        · rintro (⟨_, _, w', _, _, e, e2⟩ | h)
          · have := cells_inj (k := k) (v := w) (w := w') e
            subst this
            exact .inl e2
          · exact .inr ((hrw y).1 h)
      · rw [if_neg h2]
        refine ⟨hm1, fun y => ?_⟩
        constructor
        · exact fun h => .inr ((hrw y).2 h)
        · rintro (⟨_, h, _⟩ | h)
          · exact absurd h h2
          · exact (hrw y).1 h
theorem sub_do (st : Int) (hst : st ≠ 0) (s : Sta) (h : Sub s) (k : Nat) (hk : k < 4) (x : List C) (hx : RowG k x) : Sub (doS st s k x) := by
  obtain ⟨a, b⟩ := entS_has st k hk (s.row k) x (h.good k hk) hx s.m h.mt
  refine ⟨sg_do st s h.good k hk x hx, by rw [doS_m st s h.good k hk x hx]; exact a, ?_⟩
  intro y hy
  rw [doS_m st s h.good k hk x hx] at hy
  rcases (b y).1 hy with ⟨_, _, w, w0, w1, e, e2⟩ | ⟨h1, h2⟩
  · exact ⟨k, w, hk, w0, w1, e2, by rw [doS_row _ _ _ _ hk hk, if_pos rfl, e]⟩
  · obtain ⟨j, v, hj, v0, v1, e1, e2⟩ := h.sub y h1
    by_cases hjk : j = k
    · subst hjk
      have hxv : x = cellsC j v := Classical.byContradiction (fun hne => h2 ⟨hst, v, v0, v1, e2, e1, hne⟩)
      exact ⟨j, v, hj, v0, v1, e1, by rw [doS_row _ _ _ _ hj hj, if_pos rfl, hxv]⟩
    · exact ⟨j, v, hj, v0, v1, e1, by rw [doS_row _ _ _ _ hk hj, if_neg hjk, e2]⟩
/-- A row's range. -/
theorem row_range (s : Sta) (h : SG s) (k : Nat) (hk : k < 4) (v : Int) (e : s.row k = cellsC k v) : 0 ≤ v ∧ v < 3 := by
  rcases h k hk with h1 | ⟨w, w0, w1, h1⟩
  · rw [e] at h1; simp [cellsC] at h1
  · rw [e] at h1
    have := cells_inj h1
    omega
theorem all_do (st : Int) (hst : st = 2 ∨ st = 3) (s : Sta) (h : Sub s) (ha : All s) (k : Nat) (hk : k < 4) (x : List C) (hx : RowG k x) : All (doS st s k x) := by
  obtain ⟨a, b⟩ := entS_has st k hk (s.row k) x (h.good k hk) hx s.m h.mt
  have hg := sg_do st s h.good k hk x hx
  intro j v hj e
  have hv := row_range _ hg j hj v e
  rw [doS_m st s h.good k hk x hx, b]
  rw [doS_row _ _ _ _ hk hj] at e
  by_cases hjk : j = k
  · subst hjk
    rw [if_pos rfl] at e
    exact .inl ⟨by omega, hst, v, hv.1, hv.2, e, rfl⟩
  · rw [if_neg hjk] at e
    refine .inr ⟨ha j v hj e, ?_⟩
    rintro ⟨_, v', v0, v1, _, e2, _⟩
    exact hjk (E_inj hj hk hv.1 hv.2 v0 v1 e2).1
/-- A row put as it is: its entry is there then, what was there stays, and the rows. -/
theorem fill_do (s : Sta) (h : Sub s) (k : Nat) (hk : k < 4) (v : Int) (e : s.row k = cellsC k v) : Sub (doS 2 s k (cellsC k v)) ∧ has (doS 2 s k (cellsC k v)).m (E k v) ∧ (∀ y, has s.m y → has (doS 2 s k (cellsC k v)).m y) ∧ ∀ j, j < 4 → (doS 2 s k (cellsC k v)).row j = s.row j := by
  have hv := row_range s h.good k hk v e
  have hx : RowG k (cellsC k v) := .inr ⟨v, hv.1, hv.2, rfl⟩
  obtain ⟨a, b⟩ := entS_has 2 k hk (s.row k) _ (h.good k hk) hx s.m h.mt
  refine ⟨sub_do 2 (by omega) s h k hk _ hx, ?_, ?_, ?_⟩
  · rw [doS_m 2 s h.good k hk _ hx, b]
    exact .inl ⟨by omega, .inl rfl, v, hv.1, hv.2, rfl, rfl⟩
  · intro y hy
    rw [doS_m 2 s h.good k hk _ hx, b]
    refine .inr ⟨hy, ?_⟩
    rintro ⟨_, v', _, _, e1, _, e2⟩
    exact e2 (by rw [← e1, e])
  · intro j hj
    rw [doS_row _ _ _ _ hk hj]
    by_cases hjk : j = k
    · subst hjk; rw [if_pos rfl, e]
    · rw [if_neg hjk]
/-! ### what the rows should have -/
def wantStep (s : Sta) (m : Ents) (k : Nat) : Ents := if 0 < (s.row k).length then mput m (entryK 4 (ofC (s.row k) 3) (numV k)) true else m
def wantedL (s : Sta) : Ents := wantStep s (wantStep s (wantStep s (wantStep s [] 0) 1) 2) 3
theorem wantStep_has (s : Sta) (h : SG s) (m : Ents) (hm : MT m) (k : Nat) (hk : k < 4) : MT (wantStep s m k) ∧ ∀ y, has (wantStep s m k) y ↔ (∃ v, s.row k = cellsC k v ∧ y = E k v) ∨ has m y := by
  unfold wantStep
  rcases h k hk with h1 | ⟨v, v0, v1, h1⟩
  · rw [h1, if_neg (by simp)]
    exact ⟨hm, fun y => ⟨.inr, fun h => h.elim (fun ⟨v, e, _⟩ => by simp [cellsC] at e) id⟩⟩
  · rw [h1, if_pos (by simp [cellsC]), of_cells3]
    obtain ⟨a, b⟩ := mput_mt m hm (entryK 4 (numV v) (numV k))
    refine ⟨a, fun y => ?_⟩
    rw [b]
    constructor
    · rintro (h | h)
      · exact .inl ⟨v, rfl, h⟩
      · exact .inr h
    · rintro (⟨w, e, e2⟩ | h)
      · have := cells_inj e
        subst this
        exact .inl e2
      · exact .inr h
theorem wanted_has (s : Sta) (h : SG s) : MT (wantedL s) ∧ ∀ y, has (wantedL s) y ↔ ∃ k v, k < 4 ∧ s.row k = cellsC k v ∧ y = E k v := by
  unfold wantedL
  obtain ⟨a0, b0⟩ := wantStep_has s h [] mt_nil 0 (by omega)
  obtain ⟨a1, b1⟩ := wantStep_has s h _ a0 1 (by omega)
  obtain ⟨a2, b2⟩ := wantStep_has s h _ a1 2 (by omega)
  obtain ⟨a3, b3⟩ := wantStep_has s h _ a2 3 (by omega)
  refine ⟨a3, fun y => ?_⟩
  rw [b3, b2, b1, b0]
  constructor
  · rintro (⟨v, e⟩ | ⟨v, e⟩ | ⟨v, e⟩ | ⟨v, e⟩ | h)
    · exact ⟨3, v, by omega, e⟩
    · exact ⟨2, v, by omega, e⟩
    · exact ⟨1, v, by omega, e⟩
    · exact ⟨0, v, by omega, e⟩
    · unfold has at h; simp at h
  · rintro ⟨k, v, hk, e⟩
    rcases (show k = 0 ∨ k = 1 ∨ k = 2 ∨ k = 3 by omega) with rfl | rfl | rfl | rfl
    · exact .inr (.inr (.inr (.inl ⟨v, e⟩)))
    · exact .inr (.inr (.inl ⟨v, e⟩))
    · exact .inr (.inl ⟨v, e⟩)
    · exact .inl ⟨v, e⟩
theorem in_wanted (s : Sta) (h : Sub s) : inside s.m (wantedL s) = true := by
  obtain ⟨a, b⟩ := wanted_has s h.good
  refine inside_of _ _ h.mt a (fun x hx => ?_)
  obtain ⟨k, v, hk, _, _, e1, e2⟩ := h.sub x hx
  exact (b x).2 ⟨k, v, hk, e2, e1⟩
theorem wanted_in (s : Sta) (h : Sub s) (ha : All s) : inside (wantedL s) s.m = true := by
  obtain ⟨a, b⟩ := wanted_has s h.good
  refine inside_of _ _ a h.mt (fun x hx => ?_)
  obtain ⟨k, v, hk, e1, e2⟩ := (b x).1 hx
  rw [e2]
  exact ha k v hk e1
/-! ### plays -/
def playL (one two : Int) (first later : List OpR) : Sta := later.foldl (fun s o => doO (if o.f3 = true then two else one) s o) (first.foldl (doO one) sta0)
theorem fold_inv {α β : Type} (p : β → Prop) (f : β → α → β) (hf : ∀ b a, p b → p (f b a)) : ∀ (l : List α) (b : β), p b → p (l.foldl f b)
  | [], _, h => h
  | a :: l, b, h => fold_inv p f hf l _ (hf b a h)
theorem play_inv (p : Sta → Prop) (one two : Int) (h0 : p sta0) (h1 : ∀ s o, p s → p (doO one s o)) (h2 : ∀ s o, p s → p (doO two s o)) (first later : List OpR) : p (playL one two first later) :=
  fold_inv p _ (fun s o hs => by
    by_cases h : o.f3 = true
    · simp only [h, if_true]; exact h2 s o hs
    · simp only [h, if_false, Bool.false_eq_true]; exact h1 s o hs) later _ (fold_inv p _ h1 first _ h0)
theorem play_sg (one two : Int) (first later : List OpR) : SG (playL one two first later) :=
  play_inv SG one two sg0 (fun s o h => sg_do one s h _ (opK_lt o) _ (opX_good o)) (fun s o h => sg_do two s h _ (opK_lt o) _ (opX_good o)) first later
theorem ent_empty (st : Int) (hst : st = 0 ∨ st = 1) (s : Sta) (h : SG s) (hm : s.m = []) (k : Nat) (hk : k < 4) (x : List C) (hx : RowG k x) : (doS st s k x).m = [] := by
  rw [doS_m st s h k hk x hx, hm]
  unfold entS
  have hd : ∀ y : ByteArray, mdel ([] : Ents) y = [] := fun y => rfl
  by_cases hs : st = 0
  · rw [if_pos hs]
  · rw [if_neg hs]
    have h2 : ¬ (st = 2 ∨ st = 3) := by omega
    unfold entP entD
    simp only [hd, ite_self]
    rcases h k hk with e | ⟨v, _, _, e⟩ <;> rcases hx with rfl | ⟨w, _, _, rfl⟩ <;> rw [e] <;> simp [cellsC, h2]
theorem play_absent (first later : List OpR) : (playL 0 1 first later).m = [] := by
  have := play_inv (fun s => SG s ∧ s.m = []) 0 1 ⟨sg0, rfl⟩
    (fun s o h => ⟨sg_do 0 s h.1 _ (opK_lt o) _ (opX_good o), ent_empty 0 (.inl rfl) s h.1 h.2 _ (opK_lt o) _ (opX_good o)⟩)
    (fun s o h => ⟨sg_do 1 s h.1 _ (opK_lt o) _ (opX_good o), ent_empty 1 (.inr rfl) s h.1 h.2 _ (opK_lt o) _ (opX_good o)⟩) first later
  exact this.2
theorem play_fill (first later : List OpR) : Sub (playL 1 2 first later) :=
  play_inv Sub 1 2 sub0 (fun s o h => sub_do 1 (by omega) s h _ (opK_lt o) _ (opX_good o)) (fun s o h => sub_do 2 (by omega) s h _ (opK_lt o) _ (opX_good o)) first later
theorem play_exact (first later : List OpR) : Sub (playL 2 3 first later) ∧ All (playL 2 3 first later) :=
  play_inv (fun s => Sub s ∧ All s) 2 3 ⟨sub0, all0⟩
    (fun s o h => ⟨sub_do 2 (by omega) s h.1 _ (opK_lt o) _ (opX_good o), all_do 2 (.inl rfl) s h.1 h.2 _ (opK_lt o) _ (opX_good o)⟩)
    (fun s o h => ⟨sub_do 3 (by omega) s h.1 _ (opK_lt o) _ (opX_good o), all_do 3 (.inr rfl) s h.1 h.2 _ (opK_lt o) _ (opX_good o)⟩) first later
/-- Each row put as it is. -/
def fill1 (s t : Sta) (k : Nat) : Sta := if 0 < (s.row k).length then doS 2 t k (s.row k) else t
def fillL (s : Sta) : Sta := fill1 s (fill1 s (fill1 s (fill1 s s 0) 1) 2) 3
theorem fill1_ok (s t : Sta) (ht : Sub t) (hr : ∀ j, j < 4 → t.row j = s.row j) (k : Nat) (hk : k < 4) : Sub (fill1 s t k) ∧ (∀ j, j < 4 → (fill1 s t k).row j = s.row j) ∧ (∀ y, has t.m y → has (fill1 s t k).m y) ∧ ∀ v, s.row k = cellsC k v → has (fill1 s t k).m (E k v) := by
  unfold fill1
  rcases ht.good k hk with h1 | ⟨v, v0, v1, h1⟩
  · rw [hr k hk] at h1
    rw [h1, if_neg (by simp)]
    exact ⟨ht, hr, fun _ h => h, fun v e => by simp [cellsC] at e⟩
  · obtain ⟨a, b, c, d⟩ := fill_do t ht k hk v h1
    rw [hr k hk] at h1
    rw [h1, if_pos (by simp [cellsC])]
    exact ⟨a, fun j hj => (d j hj).trans (hr j hj), c, fun w e => by have := cells_inj e; subst this; exact b⟩
theorem fill_ok (s : Sta) (h : Sub s) : Sub (fillL s) ∧ All (fillL s) := by
  unfold fillL
  obtain ⟨a0, b0, c0, d0⟩ := fill1_ok s s h (fun _ _ => rfl) 0 (by omega)
  obtain ⟨a1, b1, c1, d1⟩ := fill1_ok s _ a0 b0 1 (by omega)
  obtain ⟨a2, b2, c2, d2⟩ := fill1_ok s _ a1 b1 2 (by omega)
  obtain ⟨a3, b3, c3, d3⟩ := fill1_ok s _ a2 b2 3 (by omega)
  refine ⟨a3, ?_⟩
  intro k v hk e
  rw [b3 k hk] at e
  rcases (show k = 0 ∨ k = 1 ∨ k = 2 ∨ k = 3 by omega) with rfl | rfl | rfl | rfl
  · exact c3 _ (c2 _ (c1 _ (d0 v e)))
  · exact c3 _ (c2 _ (d1 v e))
  · exact c3 _ (d2 v e)
  · exact d3 v e
/-- RowsApart. -/
theorem apart_ok (k : Nat) (hk : k < 4) (v : Int) (h0 : 0 ≤ v) (h1 : v < 3) : (doS 0 (doS 2 sta0 k (cellsC k v)) k []).m.length = 1 ∧ wantedL (doS 0 (doS 2 sta0 k (cellsC k v)) k []) = [] := by
  have hx : RowG k (cellsC k v) := .inr ⟨v, h0, h1, rfl⟩
  have g1 := sg_do 2 sta0 sg0 k hk _ hx
  constructor
  · rw [doS_m 0 _ g1 k hk [] (.inl rfl), doS_m 2 _ sg0 k hk _ hx]
    rcases (show k = 0 ∨ k = 1 ∨ k = 2 ∨ k = 3 by omega) with rfl | rfl | rfl | rfl <;> rfl
  · rcases (show k = 0 ∨ k = 1 ∨ k = 2 ∨ k = 3 by omega) with rfl | rfl | rfl | rfl <;> rfl
end Go.Proofs.Ytkhbmamcbhjafaa.Keys
