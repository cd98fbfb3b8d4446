/- The bytes of cells: plain Lean. -/
import Derived.Test.YtkhbmamcbhjafaaKeysD
import Derived.Test.YtkhbmamcbhjafaaCellsA
namespace Go.Proofs.Ytkhbmamcbhjafaa.Keys
open Go.Proofs.Ytkhbmamcbhjafaa.Str Go.Proofs.Ytkhbmamcbhjafaa.PRef Go.Proofs.Ytkhbmamcbhjafaa.Stands
set_option linter.unusedVariables false
set_option linter.unusedSimpArgs false
theorem pair_decode {c : C} (h : rightV c.f1 = true) (h0 : In64 c.f0) (h1 : In64 c.f1.f1) : decode ⟨(encL (pair c)).toArray⟩ = (pair c, 0) := decode_encode _ (pair_n64 h0 h1) _ (pair_encode h)
/-- The first cell's two values, and what is left. -/
def step : List UInt8 → Option (V × V × List UInt8)
  | [] => none
  | n :: r => if n.toNat ≤ r.length then (match (decode ⟨(r.take n.toNat).toArray⟩).1 with
      | [a, b] => some (a, b, r.drop n.toNat)
      | _ => none) else none
theorem step_chunk {c : C} (h : rightV c.f1 = true) (h0 : In64 c.f0) (h1 : In64 c.f1.f1) (z : List UInt8) : step (chunk c ++ z) = some (numV c.f0, c.f1, z) := by
  have hl := pair_length h
  have hn : (UInt8.ofNat (encL (pair c)).length).toNat = (encL (pair c)).length := by rw [UInt8.toNat_ofNat']; omega
  unfold chunk
  rw [List.cons_append]
  simp only [step]
  rw [hn, if_pos (by simp), List.take_left, List.drop_left, pair_decode h h0 h1]
  rfl
theorem step_inv (l : List UInt8) (a b : V) (q : List UInt8) (h : step l = some (a, b, q)) (k : a.f0 = 1) : l = chunk ⟨a.f1, b⟩ ++ q ∧ rightV b = true ∧ In64 a.f1 ∧ In64 b.f1 := by
  match l, h with
  | [], h => simp [step] at h
  | n :: r, h =>
    simp only [step] at h
    by_cases hn : n.toNat ≤ r.length
    · rw [if_pos hn] at h
      rcases decode_cases ⟨(r.take n.toNat).toArray⟩ with ⟨l', hd, he, h64, _⟩ | hd
      · rw [hd] at h
        match l', h, hd, he, h64 with
        | [x, y], h, hd, he, h64 =>
          simp only [Option.some.injEq, Prod.mk.injEq] at h
          obtain ⟨rfl, rfl, rfl⟩ := h
          obtain ⟨hg, hb, _⟩ := encode_g he h64
          have rx := (hg x (by simp)).1
          have ry := (hg y (by simp)).1
          have hxe : x = numV x.f1 := numV_of x rx k
          have hp : pair ⟨x.f1, y⟩ = [x, y] := by simp only [pair]; rw [← hxe]
          have ht : r.take n.toNat = encL [x, y] := by
            have := congrArg ByteArray.toList hb
            rwa [mk_toList, mk_toList] at this
          have hlen : (encL [x, y]).length = n.toNat := by rw [← ht, List.length_take]; omega
          refine ⟨?_, ry, h64 x (by simp), h64 y (by simp)⟩
          unfold chunk
          rw [hp, hlen, List.cons_append, ← ht, List.take_append_drop]
          simp
        | [], h, _, _, _ => simp at h
        | [_], h, _, _, _ => simp at h
        | _ :: _ :: _ :: _, h, _, _, _ => simp at h
      · rw [hd] at h
        simp at h
    · rw [if_neg hn] at h
      simp at h
where
  encode_g {l : List V} {s : ByteArray} (h : encode l = (s, 0)) (hn : N64 l) : Good l ∧ s = ⟨(encL l).toArray⟩ ∧ l.length ≤ 8 := by
    unfold encode at h
    by_cases h8 : l.length > 8
    · rw [if_pos h8] at h
      simp at h
    · rw [if_neg h8] at h
      by_cases ha : l.all rightV = true
      · rw [if_pos ha] at h
        simp only [Prod.mk.injEq, and_true] at h
        exact ⟨fun v hv => ⟨List.all_eq_true.1 ha v hv, hn v hv⟩, h.symm, by omega⟩
      · rw [if_neg ha] at h
        simp at h
theorem step_short (l : List UInt8) (a b : V) (q : List UInt8) (h : step l = some (a, b, q)) : q.length < l.length := by
  match l, h with
  | [], h => simp [step] at h
  | n :: r, h =>
    simp only [step] at h
    by_cases hn : n.toNat ≤ r.length
    · rw [if_pos hn] at h
      split at h
      · simp only [Option.some.injEq, Prod.mk.injEq] at h
        obtain ⟨_, _, rfl⟩ := h
        simp only [List.length_drop, List.length_cons]
        omega
      · simp at h
    · rw [if_neg hn] at h
      simp at h
/-- The program's reading: no test. -/
def parse : Nat → List C → List UInt8 → Option (List C)
  | 0, _, _ => none
  | k + 1, acc, l => if l = [] then some acc else match step l with
    | none => none
    | some (a, b, q) => parse k (acc ++ [⟨a.f1, b⟩]) q
/-- The document's: each cell is looked at. -/
def refG : Nat → List C → List UInt8 → Option (List C)
  | 0, _, _ => none
  | k + 1, acc, l => if l = [] then some acc else match step l with
    | none => none
    | some (a, b, q) => if a.f0 = 1 ∧ 1 ≤ a.f1 ∧ (0 < acc.length → lastC 0 acc < a.f1) then refG k (acc ++ [⟨a.f1, b⟩]) q else none
theorem parse_cons (k : Nat) (acc : List C) (l : List UInt8) (hne : l ≠ []) (a b : V) (q : List UInt8) (h : step l = some (a, b, q)) : parse (k + 1) acc l = parse k (acc ++ [⟨a.f1, b⟩]) q := by
  simp only [parse, if_neg hne, h]
theorem refG_cons (k : Nat) (acc : List C) (l : List UInt8) (hne : l ≠ []) (a b : V) (q : List UInt8) (h : step l = some (a, b, q)) : refG (k + 1) acc l = if a.f0 = 1 ∧ 1 ≤ a.f1 ∧ (0 < acc.length → lastC 0 acc < a.f1) then refG k (acc ++ [⟨a.f1, b⟩]) q else none := by
  simp only [refG, if_neg hne, h]
theorem chunk_ne (c : C) (z : List UInt8) : chunk c ++ z ≠ [] := by simp [chunk]
theorem lastC_pos : ∀ (l : List C) (last : Int), 0 ≤ last → okC last l = true → 0 < l.length → 1 ≤ lastC last l
  | [], _, _, _, h => by simp at h
  | [c], last, h0, h, _ => by
    simp only [okC, Bool.and_eq_true, decide_eq_true_eq] at h
    simp only [lastC]
    omega
  | c :: d :: l, last, h0, h, _ => by
    simp only [okC, Bool.and_eq_true, decide_eq_true_eq] at h
    exact lastC_pos (d :: l) c.f0 (by omega) (by simp only [okC, Bool.and_eq_true, decide_eq_true_eq]; exact h.2) (by simp)
theorem parse_put : ∀ (l : List C) (k : Nat) (acc : List C) (last : Int), C64 l → okC last l = true → l.length < k → parse k acc (putL l) = some (acc ++ l)
  | [], k, acc, _, _, _, hk => by
    obtain ⟨k, rfl⟩ : ∃ m, k = m + 1 := ⟨k - 1, by omega⟩
    simp [parse, putL]
  | c :: l, k, acc, last, h6, ho, hk => by
    obtain ⟨k, rfl⟩ : ∃ m, k = m + 1 := ⟨k - 1, by omega⟩
    obtain ⟨a1, a2, a3⟩ := c64_cons h6
    simp only [okC, Bool.and_eq_true, decide_eq_true_eq] at ho
    simp only [List.length_cons] at hk
    rw [putL, parse_cons _ _ _ (chunk_ne _ _) _ _ _ (step_chunk ho.1.2 a1 a2 _)]
    have e : (⟨(numV c.f0).f1, c.f1⟩ : C) = c := rfl
    rw [e, parse_put l k (acc ++ [c]) c.f0 a3 ho.2 (by omega)]
    simp
theorem refG_put : ∀ (l : List C) (k : Nat) (acc : List C), C64 l → okC 0 acc = true → okC (lastC 0 acc) l = true → l.length < k → refG k acc (putL l) = some (acc ++ l)
  | [], k, acc, _, _, _, hk => by
    obtain ⟨k, rfl⟩ : ∃ m, k = m + 1 := ⟨k - 1, by omega⟩
    simp [refG, putL]
  | c :: l, k, acc, h6, hacc, ho, hk => by
    obtain ⟨k, rfl⟩ : ∃ m, k = m + 1 := ⟨k - 1, by omega⟩
    obtain ⟨a1, a2, a3⟩ := c64_cons h6
    have hacc' : okC 0 (acc ++ [c]) = true := by
      rw [okC_app, hacc]
      simp only [okC, Bool.and_eq_true, decide_eq_true_eq] at ho ⊢
      exact ⟨trivial, ho.1, trivial⟩
    simp only [okC, Bool.and_eq_true, decide_eq_true_eq] at ho
    simp only [List.length_cons] at hk
    rw [putL, refG_cons _ _ _ (chunk_ne _ _) _ _ _ (step_chunk ho.1.2 a1 a2 _)]
    have e : (⟨(numV c.f0).f1, c.f1⟩ : C) = c := rfl
    have h1 : 1 ≤ c.f0 := by
      rcases Nat.eq_zero_or_pos acc.length with h | h
      · have : acc = [] := List.eq_nil_of_length_eq_zero h
        subst this
        have := ho.1.1
        simp only [lastC] at this
        omega
      · have := lastC_pos acc 0 (by omega) hacc h
        omega
    rw [if_pos ⟨rfl, h1, fun _ => ho.1.1⟩, e, refG_put l k (acc ++ [c]) a3 hacc' (by rw [lastC_snoc]; exact ho.2) (by omega)]
    simp
theorem refG_inv : ∀ (k : Nat) (acc : List C) (l : List UInt8) (r : List C), okC 0 acc = true → refG k acc l = some r → ∃ l', r = acc ++ l' ∧ putL l' = l ∧ C64 l' ∧ okC 0 r = true
  | 0, _, _, _, _, h => by simp [refG] at h
  | k + 1, acc, l, r, ha, h => by
    simp only [refG] at h
    by_cases h0 : l = []
    · rw [if_pos h0] at h
      simp only [Option.some.injEq] at h
      subst h
      exact ⟨[], by simp, by rw [h0]; rfl, fun v hv => by simp at hv, ha⟩
    · rw [if_neg h0] at h
      cases hs : step l with
      | none => rw [hs] at h; simp at h
      | some p =>
        obtain ⟨a, b, q⟩ := p
        rw [hs] at h
        simp only [] at h
        by_cases hc : a.f0 = 1 ∧ 1 ≤ a.f1 ∧ (0 < acc.length → lastC 0 acc < a.f1)
        · rw [if_pos hc] at h
          obtain ⟨hk, h1, h2⟩ := hc
          obtain ⟨e1, rb, n1, n2⟩ := step_inv l a b q hs hk
          have ha' : okC 0 (acc ++ [⟨a.f1, b⟩]) = true := by
            rw [okC_app, ha]
            simp only [okC, Bool.and_eq_true, decide_eq_true_eq]
            refine ⟨trivial, ⟨?_, rb⟩, trivial⟩
            rcases Nat.eq_zero_or_pos acc.length with h | h
            · have : acc = [] := List.eq_nil_of_length_eq_zero h
              subst this
              show (0 : Int) < a.f1
              omega
            · exact h2 h
          obtain ⟨l', e2, e3, e4, e5⟩ := refG_inv k _ q r ha' h
          refine ⟨⟨a.f1, b⟩ :: l', by rw [e2]; simp, by rw [e1, ← e3]; rfl, ?_, e5⟩
          intro c hc
          rcases List.mem_cons.1 hc with rfl | hc
          · exact ⟨n1, n2⟩
          · exact e4 c hc
        · rw [if_neg hc] at h
          simp at h
/-- The bytes of a row, or what is wrong with it. -/
def get (s : ByteArray) : List C × Int := match refG (s.size + 1) [] s.toList with
  | some l => (l, 0)
  | none => ([], 100)
theorem get_put (l : List C) (h6 : C64 l) (s : ByteArray) (h : put l = (s, 0)) : get s = (l, 0) := by
  unfold put at h
  by_cases ho : okC 0 l = true
  · rw [if_pos ho] at h
    simp only [Prod.mk.injEq, and_true] at h
    have hl := putL_len l
    unfold get
    rw [← h, mk_toList, mk_size, refG_put l _ [] h6 rfl ho (by omega)]
    rfl
  · rw [if_neg ho] at h
    simp at h
theorem get_cases (s : ByteArray) : (∃ l, get s = (l, 0) ∧ put l = (s, 0) ∧ C64 l ∧ l.length ≤ s.size) ∨ get s = ([], 100) := by
  unfold get
  cases h : refG (s.size + 1) [] s.toList with
  | none => exact .inr rfl
  | some r =>
    left
    obtain ⟨l', e1, e2, e3, e4⟩ := refG_inv _ [] s.toList r rfl h
    rw [List.nil_append] at e1
    subst e1
    have hl := putL_len r
    rw [e2, size_toList] at hl
    refine ⟨r, rfl, ?_, e3, hl⟩
    unfold put
    rw [if_pos e4, e2, ← mk_ext s _ rfl]
/-- The program reads without a test, then puts what it has read. -/
def get' (s : ByteArray) : List C × Int := match parse (s.size + 1) [] s.toList with
  | some l => if put l = (s, 0) then (l, 0) else ([], 100)
  | none => ([], 100)
theorem parse_64 : ∀ (k : Nat) (acc : List C) (l : List UInt8) (r : List C), C64 acc → parse k acc l = some r → C64 r
  | 0, _, _, _, _, h => by simp [parse] at h
  | k + 1, acc, l, r, ha, h => by
    simp only [parse] at h
    by_cases h0 : l = []
    · rw [if_pos h0] at h
      simp only [Option.some.injEq] at h
      subst h
      exact ha
    · rw [if_neg h0] at h
      cases hs : step l with
      | none => rw [hs] at h; simp at h
      | some p =>
        obtain ⟨a, b, q⟩ := p
        rw [hs] at h
        simp only [] at h
        refine parse_64 k _ q r ?_ h
        have h2 := step_64 l a b q hs
        intro c hc
        rcases List.mem_append.1 hc with hc | hc
        · exact ha c hc
        · rw [List.mem_singleton.1 hc]; exact h2
where
  step_64 (l : List UInt8) (a b : V) (q : List UInt8) (h : step l = some (a, b, q)) : In64 a.f1 ∧ In64 b.f1 := by
    match l, h with
    | [], h => simp [step] at h
    | n :: r, h =>
      simp only [step] at h
      by_cases hn : n.toNat ≤ r.length
      · rw [if_pos hn] at h
        rcases decode_cases ⟨(r.take n.toNat).toArray⟩ with ⟨l', hd, he, h64, _⟩ | hd
        · rw [hd] at h
          match l', h, h64 with
          | [x, y], h, h64 =>
            simp only [Option.some.injEq, Prod.mk.injEq] at h
            obtain ⟨rfl, rfl, rfl⟩ := h
            exact ⟨h64 x (by simp), h64 y (by simp)⟩
          | [], h, _ => simp at h
          | [_], h, _ => simp at h
          | _ :: _ :: _ :: _, h, _ => simp at h
        · rw [hd] at h
          simp at h
      · rw [if_neg hn] at h
        simp at h
theorem get_eq (s : ByteArray) : get' s = get s := by
  rcases get_cases s with ⟨l, h1, h2, h6, hl⟩ | h
  · rw [h1]
    have hp := h2
    unfold put at hp
    by_cases ho : okC 0 l = true
    · rw [if_pos ho] at hp
      simp only [Prod.mk.injEq, and_true] at hp
      have : parse (s.size + 1) [] s.toList = some l := by
        have := parse_put l (s.size + 1) [] 0 h6 ho (by omega)
        rwa [← mk_toList (putL l), hp] at this
      unfold get'
      rw [this]
      simp only []
      rw [if_pos h2]
    · rw [if_neg ho] at hp
      simp at hp
  · rw [h]
    unfold get'
    cases hp : parse (s.size + 1) [] s.toList with
    | none => rfl
    | some l =>
      simp only []
      by_cases h2 : put l = (s, 0)
      · have h3 := get_put l (parse_64 _ _ _ _ (fun c hc => by simp at hc) hp) s h2
        rw [h] at h3
        simp at h3
      · rw [if_neg h2]
end Go.Proofs.Ytkhbmamcbhjafaa.Keys
