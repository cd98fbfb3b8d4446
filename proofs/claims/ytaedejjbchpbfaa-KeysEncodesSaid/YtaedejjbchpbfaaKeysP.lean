/- Keys of lists of values, as lists of bytes: plain Lean. -/
import Derived.Test.YtaedejjbchpbfaaPRefx
import Derived.Test.YtaedejjbchpbfaaStr
namespace Go.Proofs.Ytaedejjbchpbfaa.Keys
open Go.Proofs.Ytaedejjbchpbfaa.Str Go.Proofs.Ytaedejjbchpbfaa.PRef
set_option linter.unusedVariables false
set_option linter.unusedSimpArgs false
abbrev V := S24
/-- May a value be? -/
def rightV (v : V) : Bool := if v.f0 = 0 then decide (v.f1 = 0) && decide (v.f2.toList = []) else if v.f0 = 1 then decide (v.f2.toList = []) else decide (v.f0 = 2) && decide (v.f1 = 0) && decide (v.f2.size ≤ 64)
/-- Is a number of 64 bits? -/
def In64 (n : Int) : Prop := -9223372036854775808 ≤ n ∧ n ≤ 9223372036854775807
theorem v_ext (a b : V) (h0 : a.f0 = b.f0) (h1 : a.f1 = b.f1) (h2 : a.f2 = b.f2) : a = b := by
  cases a; cases b; simp only at h0 h1 h2; subst h0; subst h1; subst h2; rfl
instance : DecidableEq V := fun a b => decidable_of_iff (a.f0 = b.f0 ∧ a.f1 = b.f1 ∧ a.f2.toList = b.f2.toList) ⟨fun h => v_ext a b h.1 h.2.1 (ext _ _ h.2.2), fun h => by rw [h]; exact ⟨rfl, rfl, rfl⟩⟩
/-- A number's k last bytes, the greatest first. -/
def be : Nat → Nat → List UInt8
  | 0, _ => []
  | k + 1, u => UInt8.ofNat (u / 256 ^ k % 256) :: be k u
def off (n : Int) : Nat := (n + 9223372036854775808).toNat
def esc : List UInt8 → List UInt8
  | [] => [0, 1]
  | b :: l => if b = 0 then 0 :: 255 :: esc l else b :: esc l
def tail (v : V) : List UInt8 := if v.f0 = 1 then be 8 (off v.f1) else if v.f0 = 2 then esc v.f2.toList else []
def enc (v : V) : List UInt8 := UInt8.ofNat (v.f0 + 1).toNat :: tail v
def encL : List V → List UInt8
  | [] => []
  | v :: l => enc v ++ encL l
theorem be_length : ∀ k u, (be k u).length = k
  | 0, _ => rfl
  | k + 1, u => by simp [be, be_length k u]
theorem ofNat_lt {a b : Nat} (ha : a < 256) (hb : b < 256) : (UInt8.ofNat a < UInt8.ofNat b) ↔ a < b := by
  rw [UInt8.lt_iff_toNat_lt, UInt8.toNat_ofNat', UInt8.toNat_ofNat']
  omega
theorem ofNat_inj {a b : Nat} (ha : a < 256) (hb : b < 256) (h : UInt8.ofNat a = UInt8.ofNat b) : a = b := by
  have := congrArg UInt8.toNat h
  rw [UInt8.toNat_ofNat', UInt8.toNat_ofNat'] at this
  omega
theorem cmpL_cons (x : UInt8) (a b : List UInt8) : cmpL (x :: a) (x :: b) = cmpL a b := by
  have h : ¬ x < x := UInt8.lt_irrefl x
  simp only [cmpL, if_neg h]
theorem cmpL_app : ∀ (s a b : List UInt8), cmpL (s ++ a) (s ++ b) = cmpL a b
  | [], _, _ => rfl
  | x :: s, a, b => by rw [List.cons_append, List.cons_append, cmpL_cons, cmpL_app s a b]
theorem be_cmp (x y : List UInt8) : ∀ k u u', u < 256 ^ k → u' < 256 ^ k → cmpL (be k u ++ x) (be k u' ++ y) = if u = u' then cmpL x y else if u < u' then -1 else 1
  | 0, u, u', h, h' => by
    have : u = u' := by simp at h h'; omega
    rw [if_pos this]; rfl
  | k + 1, u, u', h, h' => by
    rw [Nat.pow_succ] at h h'
    have d1 : u / 256 ^ k < 256 := Nat.div_lt_of_lt_mul h
    have d2 : u' / 256 ^ k < 256 := Nat.div_lt_of_lt_mul h'
    have m1 : u / 256 ^ k % 256 = u / 256 ^ k := Nat.mod_eq_of_lt d1
    have m2 : u' / 256 ^ k % 256 = u' / 256 ^ k := Nat.mod_eq_of_lt d2
    have hp : 0 < 256 ^ k := Nat.pow_pos (by decide)
    have e1 := Nat.div_add_mod u (256 ^ k)
    have e2 := Nat.div_add_mod u' (256 ^ k)
    have r1 := Nat.mod_lt u hp
    have r2 := Nat.mod_lt u' hp
    have hbe : ∀ u, be k u = be k (u % 256 ^ k) := be_mod k
    simp only [be, List.cons_append, m1, m2]
    by_cases hq : u / 256 ^ k = u' / 256 ^ k
    · rw [hq, cmpL_cons, hbe u, hbe u', be_cmp x y k _ _ r1 r2]
      have q1 : (u % 256 ^ k = u' % 256 ^ k) ↔ u = u' := by
        constructor
        · intro h; rw [← e1, ← e2, h, hq]
        · intro h; rw [h]
      have q2 : (u % 256 ^ k < u' % 256 ^ k) ↔ u < u' := by
        rw [hq] at e1
        omega
      by_cases c1 : u = u'
      · rw [if_pos c1, if_pos (q1.2 c1)]
      · rw [if_neg c1, if_neg (fun h => c1 (q1.1 h))]
        by_cases c2 : u < u'
        · rw [if_pos c2, if_pos (q2.2 c2)]
        · rw [if_neg c2, if_neg (fun h => c2 (q2.1 h))]
    · have hne : u ≠ u' := fun h => hq (by rw [h])
      rw [if_neg hne]
      simp only [cmpL, ofNat_lt d1 d2, ofNat_lt d2 d1]
      by_cases c : u / 256 ^ k < u' / 256 ^ k
      · have : u < u' := by
          rcases Nat.lt_or_ge u u' with h1 | h1
          · exact h1
          · have := Nat.div_le_div_right (c := 256 ^ k) h1; omega
        rw [if_pos c, if_pos this]
      · have : ¬ u < u' := fun h1 => by
          have := Nat.div_le_div_right (c := 256 ^ k) (Nat.le_of_lt h1); omega
        rw [if_neg c, if_pos (by omega), if_neg this]
where
  be_mod : ∀ k u, be k u = be k (u % 256 ^ k)
  | 0, _ => rfl
  | k + 1, u => by
    simp only [be]
    have h1 : u % 256 ^ (k + 1) / 256 ^ k % 256 = u / 256 ^ k % 256 := by
      rw [Nat.pow_succ, Nat.mod_mul_right_div_self, Nat.mod_mod]
    have h2 : be k (u % 256 ^ (k + 1)) = be k u := by
      rw [be_mod k (u % 256 ^ (k + 1)), be_mod k u, Nat.pow_succ, Nat.mod_mul_right_mod]
    rw [h1, h2]
theorem u0_lt (c : UInt8) (h : c ≠ 0) : (0 : UInt8) < c := by
  rw [UInt8.lt_iff_toNat_lt]
  have : c.toNat ≠ 0 := fun e => h (UInt8.toNat_inj.1 e)
  show 0 < c.toNat
  omega
theorem u_not_lt0 (c : UInt8) : ¬ c < 0 := by
  rw [UInt8.lt_iff_toNat_lt]
  show ¬ c.toNat < 0
  omega
theorem esc_cmp (x y : List UInt8) : ∀ s t : List UInt8, cmpL (esc s ++ x) (esc t ++ y) = if s = t then cmpL x y else cmpL s t
  | [], [] => by simp [esc, cmpL_cons]
  | [], c :: t => by
    simp only [esc]
    by_cases hc : c = 0
    · subst hc; rw [if_pos rfl, if_neg (by simp)]; rfl
    · rw [if_neg hc, if_neg (by simp)]
      simp only [List.cons_append, cmpL, if_pos (u0_lt c hc)]
  | b :: s, [] => by
    simp only [esc]
    by_cases hb : b = 0
    · subst hb; rw [if_pos rfl, if_neg (by simp)]; rfl
    · rw [if_neg hb, if_neg (by simp)]
      simp only [List.cons_append, cmpL, if_neg (u_not_lt0 b), if_pos (u0_lt b hb)]
  | b :: s, c :: t => by
    have ih := esc_cmp x y s t
    have hi : (b :: s = c :: t) ↔ b = c ∧ s = t := by simp
    simp only [esc]
    by_cases hb : b = 0
    · by_cases hc : c = 0
      · subst hb; subst hc
        simp only [if_true, List.cons_append, cmpL_cons, ih]
        by_cases h : s = t
        · rw [if_pos h, if_pos (by rw [h])]
        · rw [if_neg h, if_neg (by simp [h])]
      · subst hb
        rw [if_pos rfl, if_neg hc, if_neg (fun h => hc ((hi.1 h).1.symm))]
        simp only [List.cons_append, cmpL, if_pos (u0_lt c hc)]
    · by_cases hc : c = 0
      · subst hc
        rw [if_neg hb, if_pos rfl, if_neg (fun h => hb (hi.1 h).1)]
        simp only [List.cons_append, cmpL, if_neg (u_not_lt0 b), if_pos (u0_lt b hb)]
      · rw [if_neg hb, if_neg hc]
        simp only [List.cons_append, cmpL]
        by_cases h1 : b < c
        · rw [if_pos h1, if_pos h1, if_neg (fun h => by have := (hi.1 h).1; subst this; exact UInt8.lt_irrefl _ h1)]
        · by_cases h2 : c < b
          · rw [if_neg h1, if_pos h2, if_neg h1, if_pos h2, if_neg (fun h => by have := (hi.1 h).1; subst this; exact UInt8.lt_irrefl _ h2)]
          · have e : b = c := UInt8.le_antisymm (UInt8.not_lt.1 h2) (UInt8.not_lt.1 h1)
            subst e
            rw [if_neg h1, if_neg h2, if_neg h1, if_neg h2, ih]
            by_cases h : s = t
            · rw [if_pos h, if_pos (by rw [h])]
            · rw [if_neg h, if_neg (by simp [h])]
/-- How two values stand. -/
def cmpV (a b : V) : Int := if a.f0 < b.f0 ∨ (a.f0 = b.f0 ∧ a.f1 < b.f1) then -1 else if a.f0 > b.f0 ∨ a.f1 > b.f1 then 1 else cmpS a.f2 b.f2
def cmpVs : List V → List V → Int
  | [], [] => 0
  | [], _ :: _ => -1
  | _ :: _, [] => 1
  | x :: xs, y :: ys => if cmpV x y ≠ 0 then cmpV x y else cmpVs xs ys
theorem right_kind {v : V} (h : rightV v = true) : v.f0 = 0 ∨ v.f0 = 1 ∨ v.f0 = 2 := by
  unfold rightV at h
  by_cases h0 : v.f0 = 0
  · exact .inl h0
  · by_cases h1 : v.f0 = 1
    · exact .inr (.inl h1)
    · rw [if_neg h0, if_neg h1] at h
      simp only [Bool.and_eq_true, decide_eq_true_eq] at h
      exact .inr (.inr h.1.1)
theorem right_null {v : V} (h : rightV v = true) (h0 : v.f0 = 0) : v.f1 = 0 ∧ v.f2.toList = [] := by
  unfold rightV at h
  rw [if_pos h0] at h
  simpa using h
theorem right_int {v : V} (h : rightV v = true) (h0 : v.f0 = 1) : v.f2.toList = [] := by
  unfold rightV at h
  rw [if_neg (by omega), if_pos h0] at h
  simpa using h
theorem right_text {v : V} (h : rightV v = true) (h0 : v.f0 = 2) : v.f1 = 0 ∧ v.f2.size ≤ 64 := by
  unfold rightV at h
  rw [if_neg (by omega), if_neg (by omega)] at h
  simp only [Bool.and_eq_true, decide_eq_true_eq] at h
  exact ⟨h.1.2, h.2⟩
theorem off_lt {n : Int} (h : In64 n) : off n < 256 ^ 8 := by
  unfold off In64 at *
  have : (256 : Nat) ^ 8 = 18446744073709551616 := by decide
  omega
theorem cmpV_self (v : V) : cmpV v v = 0 := by
  unfold cmpV
  rw [if_neg (by omega), if_neg (by omega), cmpS_self]
/-- The keys of two values, whatever is behind them. -/
theorem enc_cmp (v w : V) (hv : rightV v = true) (hw : rightV w = true) (nv : In64 v.f1) (nw : In64 w.f1) (x y : List UInt8) :
    cmpL (enc v ++ x) (enc w ++ y) = (if v = w then cmpL x y else cmpV v w) ∧ (v ≠ w → cmpV v w ≠ 0) := by
  have kv := right_kind hv
  have kw := right_kind hw
  by_cases hk : v.f0 = w.f0
  · have hd : UInt8.ofNat (v.f0 + 1).toNat = UInt8.ofNat (w.f0 + 1).toNat := by rw [hk]
    unfold enc
    rw [hd, List.cons_append, List.cons_append, cmpL_cons]
    rcases kv with k0 | k1 | k2
    · obtain ⟨a1, a2⟩ := right_null hv k0
      obtain ⟨b1, b2⟩ := right_null hw (by omega)
      have e : v = w := v_ext v w hk (by omega) (ext _ _ (by rw [a2, b2]))
      subst e
      unfold tail
      rw [if_neg (by omega), if_neg (by omega)]
      exact ⟨by simp, fun h => absurd rfl h⟩
    · have a2 := right_int hv k1
      have b2 := right_int hw (by omega)
      have es : v.f2 = w.f2 := ext _ _ (by rw [a2, b2])
      unfold tail
      rw [if_pos k1, if_pos (by omega), be_cmp x y 8 _ _ (off_lt nv) (off_lt nw)]
      have q1 : (off v.f1 = off w.f1) ↔ v = w := by
        constructor
        · intro h
          refine v_ext v w hk ?_ es
          unfold off In64 at *
          omega
        · intro h; rw [h]
      have q2 : (off v.f1 < off w.f1) ↔ v.f1 < w.f1 := by unfold off In64 at *; omega
      have hc : v ≠ w → cmpV v w = if v.f1 < w.f1 then -1 else 1 := by
        intro hne
        have : v.f1 ≠ w.f1 := fun h => hne (v_ext v w hk h es)
        unfold cmpV
        by_cases h1 : v.f1 < w.f1
        · rw [if_pos (.inr ⟨hk, h1⟩), if_pos h1]
        · rw [if_neg (by omega), if_pos (by omega), if_neg h1]
      constructor
      · by_cases h : v = w
        · rw [if_pos h, if_pos (q1.2 h)]
        · rw [if_neg h, if_neg (fun h2 => h (q1.1 h2)), hc h]
          by_cases h1 : v.f1 < w.f1
          · rw [if_pos h1, if_pos (q2.2 h1)]
          · rw [if_neg h1, if_neg (fun h2 => h1 (q2.1 h2))]
      · intro h
        rw [hc h]
        split <;> omega
    · obtain ⟨a1, a2⟩ := right_text hv k2
      obtain ⟨b1, b2⟩ := right_text hw (by omega)
      unfold tail
      rw [if_neg (by omega), if_pos k2, if_neg (by omega), if_pos (by omega), esc_cmp]
      have q : (v.f2.toList = w.f2.toList) ↔ v = w := ⟨fun h => v_ext v w hk (by omega) (ext _ _ h), fun h => by rw [h]⟩
      have hc : cmpV v w = cmpL v.f2.toList w.f2.toList := by
        unfold cmpV
        rw [if_neg (by omega), if_neg (by omega)]; rfl
      constructor
      · by_cases h : v = w
        · rw [if_pos h, if_pos (q.2 h)]
        · rw [if_neg h, if_neg (fun h2 => h (q.1 h2)), hc]
      · intro h
        rw [hc]
        exact fun h2 => h (q.1 (cmpL_zero _ _ h2))
  · have hne : v ≠ w := fun h => hk (by rw [h])
    rw [if_neg hne]
    have d : ∀ a b : Int, (a = 0 ∨ a = 1 ∨ a = 2) → (b = 0 ∨ b = 1 ∨ b = 2) → ((UInt8.ofNat (a + 1).toNat < UInt8.ofNat (b + 1).toNat) ↔ a < b) := by
      intro a b ha hb
      rw [ofNat_lt (by omega) (by omega)]
      omega
    unfold enc cmpV
    simp only [List.cons_append, cmpL, d _ _ kv kw, d _ _ kw kv]
    by_cases h1 : v.f0 < w.f0
    · rw [if_pos h1, if_pos (.inl h1)]
      exact ⟨rfl, fun _ => by omega⟩
    · rw [if_neg h1, if_pos (by omega), if_neg (by omega), if_pos (by omega)]
      exact ⟨rfl, fun _ => by omega⟩
/-- A list that may be. -/
def Good (l : List V) : Prop := ∀ v ∈ l, rightV v = true ∧ In64 v.f1
theorem good_cons {v : V} {l : List V} (h : Good (v :: l)) : rightV v = true ∧ In64 v.f1 ∧ Good l := ⟨(h v (by simp)).1, (h v (by simp)).2, fun w hw => h w (by simp [hw])⟩
theorem encL_cmp : ∀ a b : List V, Good a → Good b → cmpL (encL a) (encL b) = cmpVs a b
  | [], [], _, _ => rfl
  | [], w :: b, _, _ => rfl
  | v :: a, [], _, _ => rfl
  | v :: a, w :: b, ha, hb => by
    obtain ⟨r1, n1, g1⟩ := good_cons ha
    obtain ⟨r2, n2, g2⟩ := good_cons hb
    obtain ⟨e, hne⟩ := enc_cmp v w r1 r2 n1 n2 (encL a) (encL b)
    simp only [encL, cmpVs]
    rw [e]
    by_cases h : v = w
    · subst h
      rw [if_pos rfl, cmpV_self, if_neg (by omega), encL_cmp a b g1 g2]
    · rw [if_neg h, if_pos (hne h)]
theorem encL_app : ∀ a b : List V, encL (a ++ b) = encL a ++ encL b
  | [], _ => rfl
  | v :: a, b => by simp only [List.cons_append, encL, encL_app a b, List.append_assoc]
theorem encL_inj (a b : List V) (ha : Good a) (hb : Good b) (h : encL a = encL b) : a = b := by
  have h1 := encL_cmp a b ha hb
  rw [h, cmpL_self] at h1
  clear h
  induction a generalizing b with
  | nil => cases b with
    | nil => rfl
    | cons w b => simp [cmpVs] at h1
  | cons v a ih => cases b with
    | nil => simp [cmpVs] at h1
    | cons w b =>
      obtain ⟨r1, n1, g1⟩ := good_cons ha
      obtain ⟨r2, n2, g2⟩ := good_cons hb
      simp only [cmpVs] at h1
      by_cases h : v = w
      · subst h
        rw [cmpV_self, if_neg (by omega)] at h1
        rw [ih b g1 g2 h1]
      · have := (enc_cmp v w r1 r2 n1 n2 [] []).2 h
        rw [if_pos this] at h1
        exact absurd h1.symm this
/-- No key of one value begins another one's. -/
theorem enc_apart (v w : V) (hv : rightV v = true) (hw : rightV w = true) (nv : In64 v.f1) (nw : In64 w.f1) (hne : v ≠ w) (z : List UInt8) : enc w ≠ enc v ++ z := by
  intro h
  obtain ⟨e, h2⟩ := enc_cmp v w hv hw nv nw z []
  rw [List.append_nil, ← h, cmpL_self, if_neg hne] at e
  exact h2 hne e.symm
/-- A key lies under another one's just if the list begins so. -/
theorem encL_under : ∀ a b : List V, Good a → Good b → ((cmpL (encL a) (encL b) ≤ 0 ∧ cmpL (encL b) (encL a ++ [255]) < 0) ↔ ∃ c, b = a ++ c)
  | [], b, _, hb => by
    constructor
    · intro _; exact ⟨b, rfl⟩
    · intro _
      cases b with
      | nil => simp [encL, cmpL]
      | cons w b =>
        obtain ⟨r2, n2, g2⟩ := good_cons hb
        have kw := right_kind r2
        have : UInt8.ofNat (w.f0 + 1).toNat < 255 := by
          rw [show (255 : UInt8) = UInt8.ofNat 255 from rfl, ofNat_lt (by omega) (by omega)]
          omega
        simp only [encL, enc, List.cons_append, List.nil_append, cmpL, if_pos this]
        omega
  | v :: a, [], _, _ => by
    constructor
    · rintro ⟨h, _⟩
      simp [encL, enc, cmpL] at h
    · rintro ⟨c, h⟩
      simp at h
  | v :: a, w :: b, ha, hb => by
    obtain ⟨r1, n1, g1⟩ := good_cons ha
    obtain ⟨r2, n2, g2⟩ := good_cons hb
    obtain ⟨e1, hne1⟩ := enc_cmp v w r1 r2 n1 n2 (encL a) (encL b)
    obtain ⟨e2, hne2⟩ := enc_cmp w v r2 r1 n2 n1 (encL b) (encL a ++ [255])
    simp only [encL, List.append_assoc]
    rw [e1, e2]
    by_cases h : v = w
    · subst h
      rw [if_pos rfl, if_pos rfl, encL_under a b g1 g2]
      constructor
      · rintro ⟨c, rfl⟩; exact ⟨c, rfl⟩
      · rintro ⟨c, hc⟩
        simp only [List.cons_append, List.cons.injEq, true_and] at hc
        exact ⟨c, hc⟩
    · rw [if_neg h, if_neg (fun h2 => h h2.symm)]
      have hsw : cmpV w v = - cmpV v w := by
        have s1 := cmpL_swap (enc v ++ []) (enc w ++ [])
        rw [(enc_cmp v w r1 r2 n1 n2 [] []).1, (enc_cmp w v r2 r1 n2 n1 [] []).1, if_neg h, if_neg (fun h2 => h h2.symm)] at s1
        exact s1
      constructor
      · rintro ⟨h1, h2⟩
        have := hne1 h
        omega
      · rintro ⟨c, hc⟩
        simp only [List.cons_append, List.cons.injEq] at hc
        exact absurd hc.1.symm h
end Go.Proofs.Ytaedejjbchpbfaa.Keys
