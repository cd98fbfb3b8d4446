/- Layer 17, plain: a text cut off; words written with blanks between. No program in this text. -/
import Derived.Test.YtkjfecpfjfkpnaaDoorLexQ
import Derived.Lib.ParseIntBCases
namespace Go.Proofs.YtkjfecpfjfkpnaaDoor.Lex
open Go.Lib
open Go.Proofs.YtkjfecpfjfkpnaaDoor.Val (dbl quote isDig)
set_option linter.unusedVariables false
set_option linter.unusedSimpArgs false
theorem tw_take (p : UInt8 → Bool) : ∀ (r : List UInt8) (d : Nat), (r.take d).takeWhile p = (r.takeWhile p).take d
  | [], d => by simp
  | c :: r, 0 => by simp
  | c :: r, d + 1 => by
    have := tw_take p r d
    by_cases h : p c = true <;> simp [h, this]
theorem runL_take_len (p : UInt8 → Bool) (r : List UInt8) (d : Nat) : runL p (r.take d) = min d (runL p r) := by
  unfold runL
  rw [tw_take, List.length_take]
theorem txtS_cons' (c : UInt8) (h : c ≠ 39) (r : List UInt8) : txtS (c :: r) = (txtS r).map (fun y => (c :: y.1, y.2 + 1)) := by
  cases r with
  | nil => simp [txtS, h]
  | cons d r => simp [txtS, h]
theorem txtS_take : ∀ (r t : List UInt8) (k d : Nat), txtS r = some (t, k) → k ≤ d → txtS (r.take d) = some (t, k)
  | [], t, k, d, h, _ => by simp [txtS] at h
  | [c], t, k, d, h, hd => by
    have := txtS_len _ _ _ h
    obtain ⟨d, rfl⟩ : ∃ e, d = e + 1 := ⟨d - 1, by omega⟩
    simpa using h
  | c :: e :: r, t, k, d, h, hd => by
    have hk := txtS_len _ _ _ h
    obtain ⟨d, rfl⟩ : ∃ e, d = e + 1 := ⟨d - 1, by omega⟩
    by_cases hc : c = 39
    · subst hc
      by_cases he : e = 39
      · subst he
        simp only [txtS, if_true] at h
        cases hx : txtS r with
        | none => rw [hx] at h; cases h
        | some y =>
          obtain ⟨t', k'⟩ := y
          rw [hx] at h
          simp at h
          obtain ⟨rfl, rfl⟩ := h
          obtain ⟨d, rfl⟩ : ∃ e, d = e + 1 := ⟨d - 1, by omega⟩
          have ih := txtS_take r t' k' d hx (by omega)
          simp [txtS, ih]
      · simp only [txtS, if_true, if_neg he] at h
        simp at h
        obtain ⟨rfl, rfl⟩ := h
        cases d with
        | zero => simp [txtS]
        | succ d => simp [txtS, he]
    · rw [txtS_cons' c hc] at h
      cases hx : txtS (e :: r) with
      | none => rw [hx] at h; cases h
      | some y =>
        obtain ⟨t', k'⟩ := y
        rw [hx] at h
        simp at h
        obtain ⟨rfl, rfl⟩ := h
        have ih := txtS_take (e :: r) t' k' d hx (by omega)
        rw [List.take_succ_cons, txtS_cons' c hc, ih]
        rfl
theorem txtS_cut : ∀ (r t : List UInt8) (k d : Nat), txtS r = some (t, k) → d < k → txtS (r.take d) = none ∨ ∃ t', txtS (r.take d) = some (t', d) ∧ t'.length ≤ t.length
  | [], t, k, d, h, _ => by simp [txtS] at h
  | [c], t, k, d, h, hd => by
    have := txtS_len _ _ _ h
    simp at this
    obtain rfl : d = 0 := by omega
    exact .inl rfl
  | c :: e :: r, t, k, d, h, hd => by
    cases d with
    | zero => exact .inl rfl
    | succ d =>
    by_cases hc : c = 39
    · subst hc
      by_cases he : e = 39
      · subst he
        simp only [txtS, if_true] at h
        cases hx : txtS r with
        | none => rw [hx] at h; cases h
        | some y =>
          obtain ⟨t', k'⟩ := y
          rw [hx] at h
          simp at h
          obtain ⟨rfl, rfl⟩ := h
          cases d with
          | zero => exact .inr ⟨[], by simp [txtS], by simp⟩
          | succ d =>
            rcases txtS_cut r t' k' d hx (by omega) with ih | ⟨t2, ih, hl⟩
            · left; simp [txtS, ih]
            · right; exact ⟨39 :: t2, by simp [txtS, ih], by simp; omega⟩
      · simp only [txtS, if_true, if_neg he] at h
        simp at h
        omega
    · rw [txtS_cons' c hc] at h
      cases hx : txtS (e :: r) with
      | none => rw [hx] at h; cases h
      | some y =>
        obtain ⟨t', k'⟩ := y
        rw [hx] at h
        simp at h
        obtain ⟨rfl, rfl⟩ := h
        rw [List.take_succ_cons, txtS_cons' c hc]
        rcases txtS_cut (e :: r) t' k' d hx (by omega) with ih | ⟨t2, ih, hl⟩
        · left; rw [ih]; rfl
        · right; exact ⟨c :: t2, by rw [ih]; rfl, by simp; omega⟩
theorem parseU_ge (M : Nat) : ∀ (m : List UInt8) (acc u : Nat), parseUintM M acc m = .ok u → acc ≤ u
  | [], acc, u, h => by simp [parseUintM] at h; omega
  | c :: r, acc, u, h => by
    rw [parseUintM] at h
    split at h
    · split at h
      · cases h
      · split at h
        · cases h
        · have := parseU_ge M r _ u h
          omega
    · cases h
theorem parseU_prefix (M : Nat) : ∀ (l m : List UInt8) (acc u : Nat), parseUintM M acc (l ++ m) = .ok u → ∃ v, parseUintM M acc l = .ok v ∧ v ≤ u
  | [], m, acc, u, h => ⟨acc, rfl, parseU_ge M m acc u h⟩
  | c :: r, m, acc, u, h => by
    rw [List.cons_append, parseUintM] at h
    rw [parseUintM]
    split at h
    · rename_i h1
      rw [if_pos h1]
      split at h
      · cases h
      · rename_i h2
        rw [if_neg h2]
        split at h
        · cases h
        · rename_i h3
          rw [if_neg h3]
          exact parseU_prefix M r m _ u h
    · cases h
theorem parse_prefix (c : UInt8) (x : List UInt8) (n : Int) (hc : (isDig c || c == 45) = true) (h : parseIntB 64 (c :: x) = .ok n) (d : Nat) (hne : c :: x.take d ≠ [45]) : ∃ m, parseIntB 64 (c :: x.take d) = .ok m := by
  by_cases h45 : c = 45
  · subst h45
    rw [parseIntB_minus] at h ⊢
    have hxd : x.take d ≠ [] := fun e => hne (by rw [e])
    have hx : x ≠ [] := fun e => hxd (by rw [e]; simp)
    unfold parseUintB at h ⊢
    rw [if_neg hx] at h
    rw [if_neg hxd]
    cases hu : parseUintM (2 ^ 64 - 1) 0 x with
    | ok u =>
      rw [hu] at h
      have hu' := hu
      rw [← List.take_append_drop d x] at hu'
      obtain ⟨v, hv, hle⟩ := parseU_prefix _ _ _ _ _ hu'
      rw [hv]
      simp only [signedC] at h ⊢
      split at h
      · cases h
      · rw [if_neg (by omega)]
        exact ⟨_, rfl⟩
    | range => rw [hu] at h; cases h
    | _ => rw [hu] at h; cases h
  · have hdg : isDig c = true := by
      have : (c == 45) = false := by simpa using h45
      rw [this] at hc
      simpa using hc
    have hr : 48 ≤ c.toNat ∧ c.toNat ≤ 57 := by simpa [isDig] using hdg
    rw [parseIntB_plain _ _ _ (by omega) (by omega)] at h ⊢
    unfold parseUintB at h ⊢
    rw [if_neg (by simp)] at h
    rw [if_neg (by simp)]
    cases hu : parseUintM (2 ^ 64 - 1) 0 (c :: x) with
    | ok u =>
      rw [hu] at h
      have hu' := hu
      rw [show c :: x = (c :: x.take d) ++ x.drop d by simp] at hu'
      obtain ⟨v, hv, hle⟩ := parseU_prefix _ _ _ _ _ hu'
      rw [hv]
      simp only [signlessC] at h ⊢
      split at h
      · cases h
      · rw [if_neg (by omega)]
        exact ⟨_, rfl⟩
    | range => rw [hu] at h; cases h
    | _ => rw [hu] at h; cases h
theorem tok_take {c : UInt8} {r : List UInt8} {k : Int} {t : List UInt8} {n : Int} {len : Nat} (h : tok c r = .ok (k, t, n, len)) (d : Nat) (hd : len ≤ d + 1) : tok c (r.take d) = .ok (k, t, n, len) := by
  have hsame : ∀ p : UInt8 → Bool, runL p r ≤ d → (r.take d).takeWhile p = r.takeWhile p ∧ runL p (r.take d) = runL p r := fun p hp => by
    refine ⟨?_, by rw [runL_take_len]; omega⟩
    rw [tw_take]
    exact List.take_of_length_le hp
  unfold tok at h ⊢
  split at h
  · rename_i h1
    rw [if_pos h1]
    split at h
    · cases h
    · rename_i h2
      simp at h
      obtain ⟨rfl, rfl, rfl, rfl⟩ := h
      obtain ⟨e1, e2⟩ := hsame isNam (by omega)
      rw [e1, e2, if_neg h2]
  · rename_i h1
    rw [if_neg h1]
    split at h
    · rename_i h2
      rw [if_pos h2]
      split at h
      · cases h
      · rename_i h3
        split at h
        · rename_i m hm
          simp at h
          obtain ⟨rfl, rfl, rfl, rfl⟩ := h
          obtain ⟨e1, e2⟩ := hsame isDig (by omega)
          rw [e1, e2, if_neg h3, hm]
        · cases h
    · rename_i h2
      rw [if_neg h2]
      split at h
      · rename_i h3
        rw [if_pos h3]
        split at h
        · cases h
        · rename_i t' k' hx
          split at h
          · cases h
          · rename_i h4
            simp at h
            obtain ⟨rfl, rfl, rfl, rfl⟩ := h
            rw [txtS_take r t' k' d hx (by omega)]
            simp only
            rw [if_neg h4]
      · rename_i h3
        rw [if_neg h3]
        exact h
theorem tok_cut {c : UInt8} {r : List UInt8} {k : Int} {t : List UInt8} {n : Int} {len : Nat} (h : tok c r = .ok (k, t, n, len)) (d : Nat) (hd : d + 1 < len) :
    (∃ k' t' n', tok c (r.take d) = .ok (k', t', n', d + 1)) ∨ tok c (r.take d) = .error 170 ∨ tok c (r.take d) = .error 171 := by
  have hl := tok_len h
  unfold tok at h ⊢
  split at h
  · rename_i h1
    rw [if_pos h1]
    split at h
    · cases h
    · rename_i h2
      simp at h
      obtain ⟨rfl, rfl, rfl, rfl⟩ := h
      have e : runL isNam (r.take d) = d := by rw [runL_take_len]; omega
      rw [e, if_neg (by omega)]
      exact .inl ⟨_, _, _, by rw [Nat.add_comm]⟩
  · rename_i h1
    rw [if_neg h1]
    split at h
    · rename_i h2
      rw [if_pos h2]
      split at h
      · cases h
      · rename_i h3
        split at h
        · rename_i m hm
          simp at h
          obtain ⟨rfl, rfl, rfl, rfl⟩ := h
          have e : runL isDig (r.take d) = d := by rw [runL_take_len]; omega
          rw [e, tw_take]
          by_cases h4 : c :: (r.takeWhile isDig).take d = [45]
          · rw [if_pos h4]; exact .inr (.inl rfl)
          · rw [if_neg h4]
            obtain ⟨m', hm'⟩ := parse_prefix c (r.takeWhile isDig) m h2 hm d h4
            rw [hm']
            exact .inl ⟨_, _, _, by rw [Nat.add_comm]⟩
        · cases h
    · rename_i h2
      rw [if_neg h2]
      split at h
      · rename_i h3
        rw [if_pos h3]
        split at h
        · cases h
        · rename_i t' k' hx
          split at h
          · cases h
          · rename_i h4
            simp at h
            obtain ⟨rfl, rfl, rfl, rfl⟩ := h
            rcases txtS_cut r t' k' d hx (by omega) with ih | ⟨t2, ih, hle⟩
            · rw [ih]; exact .inr (.inr rfl)
            · rw [ih]
              simp only
              rw [if_neg (by omega)]
              exact .inl ⟨_, _, _, by rw [Nat.add_comm]⟩
      · rename_i h3
        split at h
        · simp at h; omega
        · cases h
theorem lexL_nil (off : Nat) : lexL off [] = .ok [⟨5, off, [], 0⟩] := by
  rw [lexL_eq]; rfl
/-- A text that has words, cut off: the same words, but for the last one. -/
theorem lex_cut : ∀ (f off : Nat) (l : List UInt8) (ws : List Wd), l.length < f → lexF f off l = .ok ws → ∀ d, d ≤ l.length →
    (∃ p e, lexL off (l.take d) = .error (p, e) ∧ (e = 170 ∨ e = 171)) ∨ ∃ m, lexL off (l.take d) = .ok m ∧ ∀ i, i + 2 < m.length → i < ws.length ∧ m[i]? = ws[i]?
  | 0, _, _, _, hf, _, _, _ => by omega
  | f + 1, off, l, ws, hf, h, d, hd => by
    simp only [lexF] at h
    have hbl := runL_le isBl l
    rw [lexL_eq]
    by_cases hdb : d ≤ runL isBl l
    · have e : (l.take d).dropWhile isBl = [] := by
        rw [runL_drop, runL_take_len]
        exact List.drop_eq_nil_of_le (by rw [List.length_take]; omega)
      rw [e]
      exact .inr ⟨_, rfl, fun i hi => by simp at hi⟩
    · have er : runL isBl (l.take d) = runL isBl l := by rw [runL_take_len]; omega
      cases hdl : l.dropWhile isBl with
      | nil =>
        rw [runL_drop] at hdl
        have := List.drop_eq_nil_iff.1 hdl
        omega
      | cons c r =>
        rw [hdl] at h
        have hdl2 : l.drop (runL isBl l) = c :: r := by rw [← runL_drop]; exact hdl
        have hll := congrArg List.length hdl2
        rw [List.length_drop] at hll
        simp only [List.length_cons] at hll
        obtain ⟨d', hd'⟩ : ∃ d', d - runL isBl l = d' + 1 := ⟨d - runL isBl l - 1, by omega⟩
        have e : (l.take d).dropWhile isBl = c :: r.take d' := by
          rw [runL_drop, er, List.drop_take, hdl2, hd']
          rfl
        rw [e, er]
        cases ht : tok c r with
        | error e => simp [ht] at h
        | ok x =>
          obtain ⟨k, t, n, len⟩ := x
          have hlen := tok_len ht
          simp only [ht] at h
          cases hr : lexF f (off + runL isBl l + len) ((c :: r).drop len) with
          | error e => simp [hr] at h
          | ok ws' =>
            simp only [hr] at h
            simp at h
            subst h
            by_cases hle : len ≤ d' + 1
            · have htt := tok_take ht d' hle
              simp only [htt]
              have hrest : (c :: r.take d').drop len = ((c :: r).drop len).take (d' + 1 - len) := by
                rw [show c :: r.take d' = (c :: r).take (d' + 1) from rfl, List.drop_take]
              rw [hrest]
              rcases lex_cut f _ _ ws' (by simp; omega) hr (d' + 1 - len) (by simp; omega) with ⟨p, e, he, hee⟩ | ⟨m, hm, hmm⟩
              · rw [he]; exact .inl ⟨p, e, rfl, hee⟩
              · rw [hm]
                refine .inr ⟨_, rfl, fun i hi => ?_⟩
                cases i with
                | zero => simp
                | succ i =>
                  have := hmm i (by simp at hi; omega)
                  simp
                  exact ⟨by omega, this.2⟩
            · rcases tok_cut ht d' (by omega) with ⟨k', t', n', htt⟩ | htt | htt
              · simp only [htt]
                have hrest : (c :: r.take d').drop (d' + 1) = [] := List.drop_eq_nil_of_le (by simp; omega)
                rw [hrest, lexL_nil]
                exact .inr ⟨_, rfl, fun i hi => by simp at hi; omega⟩
              · simp only [htt]
                exact .inl ⟨_, _, rfl, .inl rfl⟩
              · simp only [htt]
                exact .inl ⟨_, _, rfl, .inr rfl⟩
/-- A word as it is written. -/
def wrt (k : Int) (t : List UInt8) : List UInt8 := if k = 3 then quote t else t
theorem tw_stop (p : UInt8 → Bool) (h32 : p 32 = false) (r x : List UInt8) : (r.takeWhile p ++ 32 :: x).takeWhile p = r.takeWhile p := by
  induction r with
  | nil => simp [h32]
  | cons c r ih =>
    by_cases h : p c = true
    · simp [h, ih]
    · simp [h, h32]
theorem txtS_dbl : ∀ (t x : List UInt8), txtS (dbl t ++ 39 :: 32 :: x) = some (t, (dbl t).length + 1)
  | [], x => by simp [dbl, txtS]
  | c :: r, x => by
    have ih := txtS_dbl r x
    by_cases hc : c = 39
    · subst hc
      simp only [dbl, if_true, List.cons_append, txtS, ih]
      simp
    · simp only [dbl, if_neg hc, List.cons_append]
      rw [txtS_cons' c hc, ih]
      simp
theorem tok_self {c : UInt8} {r : List UInt8} {k : Int} {t : List UInt8} {n : Int} {len : Nat} (h : tok c r = .ok (k, t, n, len)) :
    ∃ c' r', wrt k t = c' :: r' ∧ isBl c' = false ∧ ∀ x, tok c' (r' ++ 32 :: x) = .ok (k, t, n, r'.length + 1) := by
  unfold tok at h
  split at h
  · rename_i h1
    split at h
    · cases h
    · rename_i h2
      simp at h
      obtain ⟨rfl, rfl, rfl, rfl⟩ := h
      refine ⟨c, r.takeWhile isNam, by simp [wrt], ?_, fun x => ?_⟩
      · have hr : 97 ≤ c.toNat ∧ c.toNat ≤ 122 := by simpa [isLet] using h1
        cases hb : isBl c
        · rfl
        · exfalso
          simp only [isBl, Bool.or_eq_true, beq_iff_eq] at hb
          rcases hb with (hb | hb) | hb <;> (subst hb; exact absurd hr (by decide))
      · unfold tok
        have e := tw_stop isNam (by decide) r x
        rw [if_pos h1]
        unfold runL
        rw [e, if_neg (by unfold runL at h2; exact h2), Nat.add_comm]
  · rename_i h1
    split at h
    · rename_i h2
      split at h
      · cases h
      · rename_i h3
        split at h
        · rename_i m hm
          simp at h
          obtain ⟨rfl, rfl, rfl, rfl⟩ := h
          refine ⟨c, r.takeWhile isDig, by simp [wrt], ?_, fun x => ?_⟩
          · cases hb : isBl c
            · rfl
            · exfalso
              simp only [isBl, Bool.or_eq_true, beq_iff_eq] at hb
              rcases hb with (hb | hb) | hb <;> (subst hb; exact absurd h2 (by decide))
          · unfold tok
            have e := tw_stop isDig (by decide) r x
            rw [if_neg h1, if_pos h2]
            unfold runL
            rw [e, if_neg h3, hm, Nat.add_comm]
        · cases h
    · rename_i h2
      split at h
      · rename_i h3
        split at h
        · cases h
        · rename_i t' k' hx
          split at h
          · cases h
          · rename_i h4
            simp at h
            obtain ⟨rfl, rfl, rfl, rfl⟩ := h
            refine ⟨39, dbl t' ++ [39], by simp [wrt, quote], by decide, fun x => ?_⟩
            have e := txtS_dbl t' x
            unfold tok
            rw [if_neg (by decide), if_neg (by decide), if_pos rfl, List.append_assoc]
            rw [show [39] ++ 32 :: x = 39 :: 32 :: x from rfl, e]
            simp only
            rw [if_neg h4]
            simp
            omega
      · rename_i h3
        split at h
        · rename_i h4
          simp at h
          obtain ⟨rfl, rfl, rfl, rfl⟩ := h
          refine ⟨c, [], by simp [wrt], ?_, fun x => ?_⟩
          · cases hb : isBl c
            · rfl
            · exfalso
              simp only [isBl, Bool.or_eq_true, beq_iff_eq] at hb
              rcases hb with (hb | hb) | hb <;> (subst hb; exact absurd h4 (by decide))
          · unfold tok
            rw [if_neg h1, if_neg h2, if_neg h3, if_pos h4]
            rfl
        · cases h
def rend (pre : List UInt8) (ws : List Wd) : List UInt8 := ws.flatMap (fun w => pre ++ wrt w.k w.t ++ [32])
theorem dw_blank (z : List UInt8) (hz : ∀ b ∈ z, isBl b = true) (c : UInt8) (x : List UInt8) (hc : isBl c = false) : (z ++ c :: x).dropWhile isBl = c :: x ∧ runL isBl (z ++ c :: x) = z.length := by
  induction z with
  | nil => simp [runL, hc]
  | cons b z ih =>
    have hb := hz b (by simp)
    have := ih (fun b hb => hz b (by simp [hb]))
    unfold runL at this ⊢
    simp [hb, this]
theorem dw_all (z : List UInt8) (hz : ∀ b ∈ z, isBl b = true) : z.dropWhile isBl = [] := by
  induction z with
  | nil => rfl
  | cons b z ih => simp [hz b (by simp), ih (fun b hb => hz b (by simp [hb]))]
/-- Words written with blanks between are the same words. -/
theorem lex_rend (pre : List UInt8) (hpre : ∀ b ∈ pre, isBl b = true) : ∀ (f off : Nat) (l : List UInt8) (ws : List Wd), lexF f off l = .ok ws → ∀ (z : List UInt8) (off' : Nat), (∀ b ∈ z, isBl b = true) →
    ∃ m, lexL off' (z ++ rend pre ws) = .ok m ∧ m.map (fun w => (w.k, w.t, w.n)) = ws.map (fun w => (w.k, w.t, w.n))
  | 0, _, _, _, h, _, _, _ => by simp [lexF] at h
  | f + 1, off, l, ws, h, z, off', hz => by
    simp only [lexF] at h
    cases hd : l.dropWhile isBl with
    | nil =>
      rw [hd] at h
      simp at h
      subst h
      rw [lexL_eq, dw_all]
      · exact ⟨_, rfl, rfl⟩
      · intro b hb
        simp only [rend, List.flatMap_cons, List.flatMap_nil, wrt, List.append_nil, List.mem_append] at hb
        rcases hb with hb | hb | hb
        · exact hz b hb
        · rcases hb with hb | hb
          · exact hpre b hb
          · simp at hb
        · simp at hb; subst hb; rfl
    | cons c r =>
      rw [hd] at h
      cases ht : tok c r with
      | error e => simp [ht] at h
      | ok x =>
        obtain ⟨k, t, n, len⟩ := x
        simp only [ht] at h
        cases hr : lexF f (off + runL isBl l + len) ((c :: r).drop len) with
        | error e => simp [hr] at h
        | ok ws' =>
          simp only [hr] at h
          simp at h
          subst h
          obtain ⟨c', r', hw, hb, htok⟩ := tok_self ht
          have e : z ++ rend pre (⟨k, off + runL isBl l, t, n⟩ :: ws') = (z ++ pre) ++ c' :: (r' ++ 32 :: rend pre ws') := by
            simp [rend, hw]
          obtain ⟨h1, h2⟩ := dw_blank (z ++ pre) (fun b hb => by
            rcases List.mem_append.1 hb with h | h
            · exact hz b h
            · exact hpre b h) c' (r' ++ 32 :: rend pre ws') hb
          obtain ⟨m, hm, hmm⟩ := lex_rend pre hpre f _ _ ws' hr [32] (off' + (z ++ pre).length + (r'.length + 1)) (by simp; rfl)
          rw [e, lexL_eq, h1, h2]
          simp only [htok]
          have hdr : (c' :: (r' ++ 32 :: rend pre ws')).drop (r'.length + 1) = [32] ++ rend pre ws' := by simp
          rw [hdr, hm]
          exact ⟨_, rfl, by simp [hmm]⟩
end Go.Proofs.YtkjfecpfjfkpnaaDoor.Lex
