/- Layer 17, plain: the words of a text. No program in this text. -/
import Derived.Test.YtkjfecpfjfkpnaaDoorValP
import Derived.Test.YtkjfecpfjfkpnaaDoorValN
namespace Go.Proofs.YtkjfecpfjfkpnaaDoor.Lex
open Go.Lib (parseIntB)
open Go.Proofs.YtkjfecpfjfkpnaaDoor.Val (dbl quote isDig)
set_option linter.unusedVariables false
set_option linter.unusedSimpArgs false
def isLet (c : UInt8) : Bool := 97 ≤ c.toNat && c.toNat ≤ 122
def isNam (c : UInt8) : Bool := isLet c || isDig c || c == 95
def isBl (c : UInt8) : Bool := c == 32 || c == 9 || c == 10
def isSig (c : UInt8) : Bool := [40, 41, 44, 59, 61, 42].contains c
def runL (p : UInt8 → Bool) (l : List UInt8) : Nat := (l.takeWhile p).length
/-- A word: its kind, place, text, number. -/
structure Wd where
  k : Int
  a : Nat
  t : List UInt8
  n : Int
deriving DecidableEq
/-- A text behind its opening quote: what it is, and how many bytes it takes. -/
def txtS : List UInt8 → Option (List UInt8 × Nat)
  | [] => none
  | [c] => if c = 39 then some ([], 1) else none
  | c :: d :: r => if c = 39 then (if d = 39 then (txtS r).map (fun x => (39 :: x.1, x.2 + 2)) else some ([], 1)) else (txtS (d :: r)).map (fun x => (c :: x.1, x.2 + 1))
/-- One word: kind, text, number, how many bytes; or what is wrong. -/
def tok (c : UInt8) (r : List UInt8) : Except Int (Int × List UInt8 × Int × Nat) :=
  if isLet c then
    (if 1 + runL isNam r > 16 then .error 21 else .ok (1, c :: r.takeWhile isNam, 0, 1 + runL isNam r))
  else if isDig c || c == 45 then
    (if c :: r.takeWhile isDig = [45] then .error 170 else match parseIntB 64 (c :: r.takeWhile isDig) with
      | .ok n => .ok (2, c :: r.takeWhile isDig, n, 1 + runL isDig r)
      | _ => .error 172)
  else if c = 39 then
    (match txtS r with
      | none => .error 171
      | some (t, k) => if t.length > 64 then .error 21 else .ok (3, t, 0, 1 + k))
  else if isSig c then .ok (4, [c], 0, 1) else .error 170
/-- The words of a text, the place of its first byte being off; or the place and the number of the first thing wrong. -/
def lexF : Nat → Nat → List UInt8 → Except (Nat × Int) (List Wd)
  | 0, off, l => .error (off, 0)
  | f + 1, off, l =>
    match l.dropWhile isBl with
    | [] => .ok [⟨5, off + runL isBl l, [], 0⟩]
    | c :: r =>
      match tok c r with
      | .error e => .error (off + runL isBl l, e)
      | .ok (k, t, n, len) =>
        match lexF f (off + runL isBl l + len) ((c :: r).drop len) with
        | .error e => .error e
        | .ok ws => .ok (⟨k, off + runL isBl l, t, n⟩ :: ws)
theorem runL_drop (p : UInt8 → Bool) : ∀ l : List UInt8, l.dropWhile p = l.drop (runL p l)
  | [] => rfl
  | c :: r => by
    unfold runL
    by_cases h : p c = true
    · have := runL_drop p r
      unfold runL at this
      simp [h, this]
    · simp [h]
theorem runL_take (p : UInt8 → Bool) : ∀ l : List UInt8, l.takeWhile p = l.take (runL p l)
  | [] => rfl
  | c :: r => by
    unfold runL
    by_cases h : p c = true
    · have := runL_take p r
      unfold runL at this
      simp [h, ← this]
    · simp [h]
theorem runL_le (p : UInt8 → Bool) (l : List UInt8) : runL p l ≤ l.length := (List.takeWhile_prefix p).length_le
theorem txtS_len : ∀ (r t : List UInt8) (k : Nat), txtS r = some (t, k) → 1 ≤ k ∧ k ≤ r.length
  | [], t, k, h => by simp [txtS] at h
  | [c], t, k, h => by
    unfold txtS at h
    split at h
    · simp at h; obtain ⟨rfl, rfl⟩ := h; simp
    · cases h
  | c :: d :: r, t, k, h => by
    unfold txtS at h
    by_cases hc : c = 39
    · rw [if_pos hc] at h
      by_cases hd : d = 39
      · rw [if_pos hd] at h
        cases hx : txtS r with
        | none => rw [hx] at h; cases h
        | some x =>
          obtain ⟨t', k'⟩ := x
          rw [hx] at h
          have := txtS_len r t' k' hx
          simp at h
          obtain ⟨rfl, rfl⟩ := h
          simp
          omega
      · rw [if_neg hd] at h
        simp at h
        obtain ⟨rfl, rfl⟩ := h
        simp
    · rw [if_neg hc] at h
      cases hx : txtS (d :: r) with
      | none => rw [hx] at h; cases h
      | some x =>
        obtain ⟨t', k'⟩ := x
        rw [hx] at h
        have := txtS_len (d :: r) t' k' hx
        simp at h this
        obtain ⟨rfl, rfl⟩ := h
        simp
        omega
theorem tok_len {c : UInt8} {r : List UInt8} {k : Int} {t : List UInt8} {n : Int} {len : Nat} (h : tok c r = .ok (k, t, n, len)) : 1 ≤ len ∧ len ≤ r.length + 1 := by
  have h1 := runL_le isNam r
  have h2 := runL_le isDig r
  unfold tok at h
  split at h
  · split at h
    · cases h
    · simp at h; omega
  · split at h
    · split at h
      · cases h
      · split at h
        · simp at h; omega
        · cases h
    · split at h
      · split at h
        · cases h
        · rename_i t' k' hx
          have := txtS_len r t' k' hx
          split at h
          · cases h
          · simp at h; omega
      · split at h
        · simp at h; omega
        · cases h
theorem lexF_fuel : ∀ (f g off : Nat) (l : List UInt8), l.length < f → l.length < g → lexF f off l = lexF g off l
  | 0, _, _, _, h, _ => by omega
  | _ + 1, 0, _, _, _, h => by omega
  | f + 1, g + 1, off, l, h1, h2 => by
    simp only [lexF]
    have hdl : (l.dropWhile isBl).length ≤ l.length := by rw [runL_drop]; simp
    cases hd : l.dropWhile isBl with
    | nil => rfl
    | cons c r =>
      rw [hd] at hdl
      simp only [List.length_cons] at hdl
      cases ht : tok c r with
      | error e => simp only [ht]
      | ok x =>
        obtain ⟨k, t, n, len⟩ := x
        have := tok_len ht
        have hl : ((c :: r).drop len).length < f := by simp; omega
        have hg : ((c :: r).drop len).length < g := by simp; omega
        simp only [ht]
        rw [lexF_fuel f g _ _ hl hg]
def lexL (off : Nat) (l : List UInt8) : Except (Nat × Int) (List Wd) := lexF (l.length + 1) off l
theorem lexL_eq (off : Nat) (l : List UInt8) : lexL off l = match l.dropWhile isBl with
    | [] => .ok [⟨5, off + runL isBl l, [], 0⟩]
    | c :: r =>
      match tok c r with
      | .error e => .error (off + runL isBl l, e)
      | .ok (k, t, n, len) =>
        match lexL (off + runL isBl l + len) ((c :: r).drop len) with
        | .error e => .error e
        | .ok ws => .ok (⟨k, off + runL isBl l, t, n⟩ :: ws) := by
  change lexF (l.length + 1) off l = _
  rw [lexF]
  have hdl : (l.dropWhile isBl).length ≤ l.length := by rw [runL_drop]; simp
  cases hd : l.dropWhile isBl with
  | nil => rfl
  | cons c r =>
    rw [hd] at hdl
    simp only [List.length_cons] at hdl
    cases ht : tok c r with
    | error e => simp only [ht]
    | ok x =>
      obtain ⟨k, t, n, len⟩ := x
      have := tok_len ht
      simp only [ht]
      rw [lexF_fuel l.length (((c :: r).drop len).length + 1) _ _ (by simp; omega) (by omega)]
      rfl
/-- What Words answers. -/
def wordsP (l : List UInt8) : List Wd × Nat × Int := if l.length > 1024 then ([], 0, 30) else match lexL 0 l with
  | .error (p, e) => ([], p, e)
  | .ok ws => (ws, 0, 0)
end Go.Proofs.YtkjfecpfjfkpnaaDoor.Lex
